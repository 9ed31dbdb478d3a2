/- A part of the proof of the law TopTells: Com4 Bak Bak2 Bak3 Bak4 Bak5. -/
import Derived.Test.YtgfogfciobmmpaaGreatDoorPAp
import Derived.Laws.EntriesVeiled
import Derived.Deep.LoopGhost
import Derived.BigRegion
set_option linter.unusedSimpArgs false
set_option linter.unusedVariables false
set_option maxRecDepth 100000
set_option maxHeartbeats 8000000
namespace Go.Proofs.YtgfogfciobmmpaaGreatDoor
section
open Go.RowKit
variable {w0:World} {X:List Nat} {Cs:List Comp} {w:World} {x k p L:Nat} {F:List Nat} {m:MemD} {c:ComD}
theorem Step_com2 (hS:Sep w0 X (cBlk x (comO x k c)::cBlk k (chkO c.chk)::cMem p m L F::Cs) w) (th:Int) (hok:ComOk c m.ring) (h0:c.state=2) (hL:L≤1073741824) :
   Calls Tryz.prog 279 #[ptr x,ptr p,.int .i64 th] w (ComPost w0 X Cs x p L (comStep m c)):=by
 obtain ⟨ring,stamps,multi,start,seen,reads,chk,state,stamp⟩:=c
 obtain ⟨hr,hsp,hst0,-,hrd,-,-,hsn⟩:=hok
 simp only at hr hsp hsn h0 hst0 hrd
 subst h0 hr
 obtain ⟨hsn0,hsn1⟩:=hsn (by decide)
 have hmem:MemOk m:=(hS.h2:RepM w p m L F).ok
 have hrg:=hmem.ring
 have hrg1:1≤m.ring∧m.ring≤16:=by unfold MemD.ring;omega
 have hstep:comStep m ⟨m.ring,stamps,multi,start,seen,reads,chk,2,stamp⟩ =
   (if m.newest=seen then (doneA (seen+1),⟨m.ring,stamps,multi,start,seen,reads,chk,3,seen+1⟩,{ m with newest:=seen+1 }) else (moved,⟨m.ring,stamps,multi,start,seen,reads,newChk m.ring start reads false,0,stamp⟩,m)):=rfl
 generalize comStep m ⟨m.ring,stamps,multi,start,seen,reads,chk,2,stamp⟩=R at hstep ⊢
 have HS0:=kH (hS.new ans0)
 have HSTEP:=kH hstep
 have HN:=kH (fun W=>New_chk W m.ring start reads false hrg1 hst0 hrd.1)
 obtain ⟨r0,r1,r2,r3,r4,r5,r6,r7,hq,hv⟩:=agg8 hrd.1
 rw [hv] at HN
 subst hq
 have hw1:IntKind.i64.wrap (seen+1)=seen+1:=IntWalk.i64_in _ (by omega)
 clear hstep hS hsn hmem hrg hv hrd hst0
 unfold ptr at *
 go_enter Tryz.func279,Tryz.ntmps279
 go_wp2_with fail
 refine (HS0.out.f3.sizes).mono ?_
 rintro e w1 ⟨rfl,S1⟩
 have S2:=S1.f2
 have k1:=S2.cell 1
 have k8:=S2.cell 8
 have k18:=S2.cell 18
 simp only [comA,gA,gZ,gS] at k1 k8 k18
 have HSW:=kH (fun q=>(S1.drewN q).swap th seen (seen+1) (by unfold I64;omega) hL)
 clear S1 S2
 go_wp2_with fail
 go_region_held3 (fun w'=>w'.cell? ⟨x,8,none⟩=some (.int .i64 seen)) (go_keep) ((go_at_call 282;refine (HSW.out _).mono ?_;rintro e2 w2 ⟨rfl,F2,S2⟩;have l8:=S2.f2.cell 8;simp only [comA,gA,gZ,gS] at l8;have HS2:=kH S2;clear S2))
 have S3:=HS2.out.f2
 have f18:=S3.froz 18
 have f19:=S3.froz 19
 have f17:=S3.froz 17
 have l18:=S3.cell 18
 have l19:=S3.cell 19
 have l17:=S3.cell 17
 have l1:=S3.cell 1
 have l7:=S3.cell 7
 have l9:=S3.cell 9
 have l10:=S3.cell 10
 have l11:=S3.cell 11
 have l12:=S3.cell 12
 have l13:=S3.cell 13
 have l14:=S3.cell 14
 have l15:=S3.cell 15
 have l16:=S3.cell 16
 simp only [comA,gA,gZ,gS,List.getD_cons_zero,List.getD_cons_succ] at l18 l19 l17 l1 l7 l9 l10 l11 l12 l13 l14 l15 l16
 obtain ⟨⟨a0,a1,a2,a3⟩,⟨g0,g1,g2,g3⟩⟩:=S3.f2.ansBox
 have hxg:x≠w.heap.size:=Ne.symm S3.f2.ne01
 have hxl:=heap_lt S3.h0
 have hgl:=heap_lt S3.f2.h0
 clear k1 k8 k18 S3
 by_cases hn:m.newest=seen
 · have HNW:=kH hn
   have hd:decide (m.newest=seen)=true:=decide_eq_true hn
   rw [hd]
   clear hn hd
   go_wp2
   refine ((HS2.out.f2.set 18 (.int .i64 3)).set 19 (.int .i64 (seen+1))).f2.ret (doneA (seen+1)) rfl rfl rfl (fun W' S=>?_)
   have hR:=HSTEP.out
   rw [if_pos HNW.out] at hR
   subst hR
   have S:=S.s23
   rw [if_pos HNW.out] at S
   exact ⟨rfl,k,F2,S⟩
 · have HNW:=kH hn
   have hd:decide (m.newest=seen)=false:=decide_eq_false hn
   rw [hd]
   clear hn hd a0 a1 a2 a3 g0 g1 g2 g3
   go_wp2_with fail
   go_region_held3 (fun w'=>w'.cell? ⟨x,1,none⟩=some (.int .i64 m.ring)∧w'.cell? ⟨x,7,none⟩=some (.int .i64 start)∧w'.cell? ⟨x,9,none⟩=some (.int .u64 r0)∧w'.cell? ⟨x,10,none⟩=some (.int .u64 r1)∧w'.cell? ⟨x,11,none⟩=some (.int .u64 r2)∧w'.cell? ⟨x,12,none⟩=some (.int .u64 r3)∧w'.cell? ⟨x,13,none⟩=some (.int .u64 r4)∧w'.cell? ⟨x,14,none⟩=some (.int .u64 r5)∧w'.cell? ⟨x,15,none⟩=some (.int .u64 r6)∧w'.cell? ⟨x,16,none⟩=some (.int .u64 r7)) (first | go_keep | (and_intros <;> (rw [World.cell?_setCell_other (h:=by simp)];assumption))) ((go_at_call 110;refine (HN.out _).mono ?_;rintro e3 w3 ⟨k',hk',rfl,hck,hb3⟩;have S4:=(HS2.out.drewN _).got hb3 hk' hck;have m1:=S4.f3.cell 1;have m7:=S4.f3.cell 7;have m9:=S4.f3.cell 9;have m10:=S4.f3.cell 10;have m11:=S4.f3.cell 11;have m12:=S4.f3.cell 12;have m13:=S4.f3.cell 13;have m14:=S4.f3.cell 14;have m15:=S4.f3.cell 15;have m16:=S4.f3.cell 16;have m17:=S4.f3.cell 17;have n17:=S4.f3.froz 17;simp only [comA,gA,gZ,gS,List.getD_cons_zero,List.getD_cons_succ] at m1 m7 m9 m10 m11 m12 m13 m14 m15 m16 m17;have HS4:=kH S4;clear S4 hb3 hck))
   have S5:Sep w0 X (cBlk x (comO x k' ⟨m.ring,stamps,multi,start,seen,[r0,r1,r2,r3,r4,r5,r6,r7],newChk m.ring start [r0,r1,r2,r3,r4,r5,r6,r7] false,2,stamp⟩)::cBlk k' (chkO (newChk m.ring start [r0,r1,r2,r3,r4,r5,r6,r7] false))::_::_::_::Cs) _:=HS4.out.f3.set 17 (ptr k')
   have HS5:=kH S5
   clear S5 m1 m7 m9 m10 m11 m12 m13 m14 m15 m16 m17 n17 l1 l7 l8 l9 l10 l11 l12 l13 l14 l15 l16 l17 l18 l19 f17 f18 f19
   go_wp2_with fail
   refine (moved_com HS5.out 0).mono ?_
   rintro e w6 ⟨rfl,S6⟩
   have HS6:=kH S6
   obtain ⟨⟨a0,a1,a2,a3⟩,⟨g0,g1,g2,g3⟩⟩:=S6.f3.ansBox
   clear S6
   go_wp2
   refine HS6.out.f3.ret moved rfl rfl rfl (fun W' S=>?_)
   have hR:=HSTEP.out
   rw [if_neg HNW.out] at hR
   subst hR
   have S:=S.f3.drop
   rw [if_neg HNW.out] at S
   exact ⟨rfl,k',F2,S⟩
theorem Step_com (hS:Sep w0 X (cBlk x (comO x k c)::cBlk k (chkO c.chk)::cMem p m L F::Cs) w) (th:Int) (hok:ComOk c m.ring) (hL:L≤1073741824) :
   Calls Tryz.prog 279 #[ptr x,ptr p,.int .i64 th] w (ComPost w0 X Cs x p L (comStep m c)):=by
 have h:=hok.state
 rcases (show c.state=0∨c.state=1∨c.state=2 by omega) with h | h | h
 · exact Step_com0 hS th hok h hL
 · exact Step_com1 hS th hok h hL
 · exact Step_com2 hS th hok h hL
end
section
open Go.RowKit
variable {w0:World} {X:List Nat} {Cs:List Comp} {w:World} {x p L:Nat} {lv:Value} {F:List Nat} {m:MemD} {b:BakD}
def nextV (x:Nat):Nat→Value
 | 0=>mval 119 x
 | 1=>mval 222 x
 | 2=>mval 243 x
 | 3=>mval 249 x
 | 4=>mval 219 x
 | 5=>mval 220 x
 | 6=>mval 221 x
 | _=>.nilFunc
def bakA (x:Nat) (lv:Value) (b:BakD):Array Value:=#[.int .i64 b.size,.bool b.multi,.int .i64 b.stamp,lv,
 .int .u64 (b.sig.getD 0 0),.int .u64 (b.sig.getD 1 0),.int .u64 (b.sig.getD 2 0),.int .u64 (b.sig.getD 3 0),.int .u64 (b.sig.getD 4 0),.int .u64 (b.sig.getD 5 0),.int .u64 (b.sig.getD 6 0),.int .u64 (b.sig.getD 7 0),
 .int .i64 b.most,.int .i64 b.left,.int .i64 b.laid,.int .i64 b.at_,.int .i64 b.word,.bool b.known,nextV x b.next]
def bakO (x:Nat) (lv:Value) (b:BakD):Obj:=.cells (bakA x lv b) 216 (0,0)
theorem slot_bak (hS:Sep w0 X (cBlk x (bakO x lv b)::Cs) w) (s:Int) (hr1:1≤b.size∧b.size≤16) :
   Calls Tryz.prog 176 #[ptr x,.int .i64 s] w (Just (.int .i64 (slotI s b.size)) w):=by
 have k0:=hS.cell 0
 simp only [bakA,gA,gZ] at k0
 have HSL:=kH (fun W=>Slot_calls s b.size hr1.1 hr1.2 W)
 clear hS hr1
 unfold ptr
 go_enter Tryz.func176,Tryz.ntmps176
 go_wp2_with fail
 refine (HSL.out _).mono ?_
 rintro e w1 ⟨rfl,rfl⟩
 go_wp2
 go_ret
 exact ⟨rfl,rfl⟩
theorem head_bak (hS:Sep w0 X (cBlk x (bakO x lv b)::cMem p m L F::Cs) w) (th s:Int) (hr:b.size=m.ring) (hr1:1≤m.ring∧m.ring≤16) (hL:L≤1073741824) :
   Calls Tryz.prog 229 #[ptr x,ptr p,.int .i64 th,.int .i64 s] w (fun e w'=>e=.returned (.int .i64 (m.head s))∧∃ F',Sep w0 X (cBlk x (bakO x lv b)::cMem p m (L+1) F'::Cs) w'):=by
 have HS:=kH hS
 have HSL:=kH (slot_bak hS s (by omega))
 rw [hr] at HSL
 clear hS hr hr1
 unfold ptr at *
 go_enter Tryz.func229,Tryz.ntmps229
 go_wp2_with fail
 refine HSL.out.mono ?_
 rintro e w1 ⟨rfl,rfl⟩
 go_wp2_with fail
 refine (HS.out.sw.loadHead th s hL).mono ?_
 rintro e w2 ⟨rfl,F2,S2⟩
 have HS2:=kH S2.sw
 clear S2
 go_wp2
 go_ret
 exact ⟨rfl,F2,HS2.out⟩
theorem ready_bak (hS:Sep w0 X (cBlk x (bakO x lv b)::Cs) w) (hl:b.left≤24) :
   Calls Tryz.prog 178 #[ptr x] w (fun e w'=>e=.returned (.int .i64 2)∧Sep w0 X (cBlk x (bakO x lv (readyB b))::Cs) w'):=by
 obtain ⟨size,multi,stamp,l,sig,most,left,laid,at_,word,known,next⟩:=b
 have k13:=hS.cell 13
 have k17:=hS.cell 17
 have k18:=hS.cell 18
 have f18:=hS.froz 18
 simp only [bakA,gA,gZ,gS] at k13 k17 k18 hl
 have HS:=kH hS
 clear hS
 rcases (show 0 < left∨left=0 by omega) with h | h
 · have HL:=kH h
   have h':(0:Int) < (left:Int):=by omega
   unfold ptr
   go_enter Tryz.func178,Tryz.ntmps178
   go_wp2
   go_ret
   refine ⟨rfl,?_⟩
   have e:readyB ⟨size,multi,stamp,l,sig,most,left,laid,at_,word,known,next⟩=⟨size,multi,stamp,l,sig,most,left,laid,at_,word,known,4⟩:=by
     unfold readyB;rw [if_pos HL.out]
   rw [e]
   exact HS.out.set 18 (mval 219 x)
 · subst h
   cases known
   · unfold ptr
     go_enter Tryz.func178,Tryz.ntmps178
     go_wp2
     go_ret
     exact ⟨rfl,HS.out.set 18 (mval 220 x)⟩
   · unfold ptr
     go_enter Tryz.func178,Tryz.ntmps178
     go_wp2
     go_ret
     exact ⟨rfl,HS.out.set 18 (mval 221 x)⟩
theorem older_bak (hS:Sep w0 X (cBlk x (bakO x lv b)::Cs) w) (s:Int) (hl:b.left≤24) (hs:I64 s) (hst:1≤b.stamp∧b.stamp≤1099511627776) (hz:1≤b.size∧b.size≤16) :
   Calls Tryz.prog 179 #[ptr x,.int .i64 s] w (fun e w'=>e=.returned (.int .i64 2)∧Sep w0 X (cBlk x (bakO x lv (olderB b s))::Cs) w'):=by
 obtain ⟨size,multi,stamp,l,sig,most,left,laid,at_,word,known,next⟩:=b
 have k15:=hS.cell 15
 have f15:=hS.froz 15
 simp only [bakA,gA,gZ,gS] at k15
 have S1:Sep w0 X (cBlk x (bakO x lv ⟨size,multi,stamp,l,sig,most,left,laid,s,word,known,next⟩)::Cs) (w.setCell ⟨x,15,none⟩ (.int .i64 s)):=hS.set 15 (.int .i64 s)
 have HS:=kH S1
 have l0:=S1.cell 0
 have l2:=S1.cell 2
 have l15:=S1.cell 15
 have l18:=S1.cell 18
 have g18:=S1.froz 18
 simp only [bakA,gA,gZ,gS] at l0 l2 l15 l18
 simp only at hl hst hz
 obtain ⟨hst0,hst1⟩:=hst
 obtain ⟨hz0,hz1⟩:=hz
 unfold I64 at hs
 have hw1:IntKind.i64.wrap (stamp - size)=stamp - size:=IntWalk.i64_in _ (by omega)
 clear hS S1
 generalize hR:olderB ⟨size,multi,stamp,l,sig,most,left,laid,at_,word,known,next⟩ s=R
 have HR:=kH hR
 clear hR
 unfold ptr
 go_enter Tryz.func179,Tryz.ntmps179
 go_wp2_with fail
 generalize w.setCell ⟨x,15,none⟩ (.int .i64 s)=w1 at *
 by_cases hc:s < 1∨s≤stamp - size
 · have e:olderB ⟨size,multi,stamp,l,sig,most,left,laid,at_,word,known,next⟩ s=readyB ⟨size,multi,stamp,l,sig,most,left,laid,s,word,known,next⟩:=by
     unfold olderB;rw [if_pos hc]
   have E:=kH e
   clear e
   rcases (show s < 1∨(1≤s∧s≤stamp - size) by omega) with h | ⟨h,h'⟩
   · clear hc
     go_quiet (fail)
     go_wp2_with fail
     refine (ready_bak (HS.out.drewN _) hl).mono ?_
     rintro e w2 ⟨rfl,S2⟩
     have HS2:=kH S2
     clear S2
     go_wp2
     go_ret
     rw [← HR.out,E.out]
     exact ⟨rfl,HS2.out⟩
   · have hd:decide (s < 1)=false:=by simp;omega
     clear hc
     go_quiet (fail)
     go_wp2_with fail
     refine (ready_bak (HS.out.drewN _) hl).mono ?_
     rintro e w2 ⟨rfl,S2⟩
     have HS2:=kH S2
     clear S2
     go_wp2
     go_ret
     rw [← HR.out,E.out]
     exact ⟨rfl,HS2.out⟩
 · have e:olderB ⟨size,multi,stamp,l,sig,most,left,laid,at_,word,known,next⟩ s=⟨size,multi,stamp,l,sig,most,left,laid,s,word,known,1⟩:=by
     unfold olderB;rw [if_neg hc]
   have E:=kH e
   have hd:decide (s < 1)=false:=by simp;omega
   have hd2:decide (s≤stamp - size)=false:=by simp;omega
   clear e hc
   go_quiet (fail)
   go_wp2
   go_ret
   rw [← HR.out,E.out]
   exact ⟨rfl,(HS.out.drewN _).set 18 (mval 222 x)⟩
theorem over_bak (hS:Sep w0 X (cBlk x (bakO x lv b)::Cs) w) (hl:b.left≤24) (hst:1≤b.stamp∧b.stamp≤1099511627776) :
   Calls Tryz.prog 230 #[ptr x] w (fun e w'=>e=.returned (.int .i64 2)∧Sep w0 X (cBlk x (bakO x lv (overB b))::Cs) w'):=by
 obtain ⟨size,multi,stamp,l,sig,most,left,laid,at_,word,known,next⟩:=b
 have k15:=hS.cell 15
 have k2:=hS.cell 2
 have k17:=hS.cell 17
 have f17:=hS.froz 17
 simp only [bakA,gA,gZ,gS] at k15 k2 k17
 have HS:=kH hS
 simp only at hl hst
 obtain ⟨hst0,hst1⟩:=hst
 have hw1:IntKind.i64.wrap (stamp - 1)=stamp - 1:=IntWalk.i64_in _ (by omega)
 clear hS
 unfold ptr
 go_enter Tryz.func230,Tryz.ntmps230
 go_wp2_with fail
 go_region
 all_goals
   go_wp2_with fail
   refine Calls.mono (ready_bak (b:=⟨size,multi,stamp,l,sig,most,left,laid,at_,word,at_ == stamp - 1,next⟩) ((HS.out.set 17 (.bool (at_ == stamp - 1))).drew) hl) ?_
   rintro e w2 ⟨rfl,S2⟩
   have HS2:=kH S2
   clear S2
   go_wp2
   go_ret
   exact ⟨rfl,HS2.out⟩
theorem bakA_word (h:Sep w0 X (cBlk x (bakO x lv b)::Cs) w) (k:Nat) (hk:k < 8):w.cell? ⟨x,4+k,none⟩=some (.int .u64 (b.sig.getD k 0)):=by
 rw [h.cell (4+k)]
 rcases (show k=0∨k=1∨k=2∨k=3∨k=4∨k=5∨k=6∨k=7 by omega) with rfl | rfl | rfl | rfl | rfl | rfl | rfl | rfl <;> rfl
theorem wording_bak (hS:Sep w0 X (cBlk x (bakO x lv b)::Cs) w) (j:Nat) (hj:j≤8) (hwd:b.word=(j:Int) - 1) (hl:b.left≤24) (ha:I64 b.at_∧0≤b.at_) (hst:1≤b.stamp∧b.stamp≤1099511627776) (hz:1≤b.size∧b.size≤16) :
   Calls Tryz.prog 232 #[ptr x] w (fun e w'=>e=.returned (.int .i64 2)∧Sep w0 X (cBlk x (bakO x lv (wordingB b j))::Cs) w'):=by
 obtain ⟨size,multi,stamp,l,sig,most,left,laid,at_,word,known,next⟩:=b
 simp only at hwd hl ha hst hz
 subst hwd
 have k16:=hS.cell 16
 have f16:=hS.froz 16
 simp only [bakA,gA,gZ,gS] at k16
 have S1:Sep w0 X (cBlk x (bakO x lv ⟨size,multi,stamp,l,sig,most,left,laid,at_,(j:Int),known,next⟩)::Cs) (w.setCell ⟨x,16,none⟩ (.int .i64 (j:Int))):=hS.set 16 (.int .i64 (j:Int))
 have HS:=kH S1
 have HA:=kH (⟨hl,hst,hz,ha⟩:left≤24∧(1≤stamp∧stamp≤1099511627776)∧(1≤size∧size≤16)∧I64 at_∧0≤at_)
 have hw1:IntKind.i64.wrap (at_ - 1)=at_ - 1:=by
   unfold I64 at ha
   exact IntWalk.i64_in _ (by omega)
 generalize hR:wordingB ⟨size,multi,stamp,l,sig,most,left,laid,at_,(j:Int) - 1,known,next⟩ j=R
 have hR2:R=(if nextW sig 8 j < 8 then ⟨size,multi,stamp,l,sig,most,left,laid,at_,(nextW sig 8 j:Nat),known,2⟩ else olderB ⟨size,multi,stamp,l,sig,most,left,laid,at_,(nextW sig 8 j:Nat),known,next⟩ (at_ - 1)):=hR.symm
 have HR:=kH hR2
 clear hS S1 hR hR2 hl ha hst hz
 unfold ptr
 go_enter Tryz.func232,Tryz.ntmps232
 go_wp2_with fail
 go_loopg [] (9 - j) (fun nn wr=>∃ k:Nat,k≤8∧nn+k=9∧nextW sig 8 k=nextW sig 8 j∧Sep w0 X (cBlk x (bakO x lv ⟨size,multi,stamp,l,sig,most,left,laid,at_,(k:Int),known,next⟩)::Cs) wr)
 case atStart=>exact ⟨j,hj,by omega,rfl,HS.out⟩
 case round =>
   obtain ⟨k,hk,hn,hN,S⟩:=hrel
   have HN:=kH hn
   have HK:=kH hN
   have HSR:=kH S
   have l16:=S.cell 16
   have g16:=S.froz 16
   have l15:=S.cell 15
   have l18:=S.cell 18
   have g18:=S.froz 18
   simp only [bakA,gA,gZ,gS] at l15 l16 l18
   clear hn hN S
   by_cases h8:k < 8
   · have hc:=bakA_word HSR.out k h8
     have h8':(k:Int) < 8:=by omega
     by_cases h0:sig.getD k 0=0
     · have HZ:=kH (nextW_zero h8 h0)
       simp only at hc
       rw [h0] at hc
       clear h0
       go_wp2_with fail
       go_quiet (fail)
       go_wp2
       go_roundg (8 - k)
       case measure=>have:=HN.out;omega
       case rel=>exact ⟨k+1,by omega,by have:=HN.out;omega,by rw [← HZ.out];exact HK.out,by
         have h:=(HSR.out.drewN nq).set 16 (.int .i64 ((k:Int)+1))
         have e:(((k+1:Nat)):Int)=(k:Int)+1:=by omega
         rw [e]
         exact h⟩
     · have HZ:=kH (nextW_here (r:=sig) (j:=k) (fun h=>h0 h.2))
       simp only at hc
       have h0':(sig.getD k 0 != 0)=true:=by simpa using h0
       generalize sig.getD k 0=y at *
       clear h0
       go_wp2_with fail
       go_quiet (fail)
       go_wp2
       go_ret
       refine ⟨rfl,?_⟩
       have hR:=HR.out
       rw [← HK.out,HZ.out,if_pos h8] at hR
       rw [hR]
       exact (HSR.out.drewN _).set 18 (mval 243 x)
   · have hk8:k=8:=by omega
     subst hk8
     have HZ:=kH (nextW_here (r:=sig) (j:=8) (fun h=>by omega))
     go_wp2_with fail
     obtain ⟨q1,q2,q3,q4,q5⟩:=HA.out
     refine (older_bak HSR.out (at_ - 1) q1 (by unfold I64 at *;omega) q2 q3).mono ?_
     rintro e w2 ⟨rfl,S2⟩
     have HS2:=kH S2
     clear S2 q1 q2 q3 q4 q5
     go_wp2
     go_ret
     refine ⟨rfl,?_⟩
     have hR:=HR.out
     rw [← HK.out,HZ.out,if_neg (by omega)] at hR
     rw [hR]
     exact HS2.out
end
section
open Go.RowKit
variable {w0:World} {X:List Nat} {Cs:List Comp} {w:World} {x p L:Nat} {lv:Value} {F:List Nat} {m:MemD} {b:BakD}
def BakPost (w0:World) (X:List Nat) (Cs:List Comp) (x p L:Nat) (lv:Value) (r:AnsD×BakD×MemD) (e:Ending) (w':World):Prop :=
 e=.returned (.int .i64 r.1.kind)∧∃ F',Sep w0 X (cBlk x (bakO x lv r.2.1)::cMem p r.2.2 (L+1) F'::Cs) w'
theorem bak_mem (hS:Sep w0 X (cBlk x (bakO x lv b)::cMem p m L F::Cs) w):MemOk m∧1≤m.ring∧m.ring≤16:=by
 have hm:MemOk m:=(hS.h1:RepM w p m L F).ok
 have:=hm.ring
 exact ⟨hm,by unfold MemD.ring;omega,by unfold MemD.ring;omega⟩
theorem si64_wrap {v:Int} (h:W64 v):IntKind.i64.wrap v=si64 v:=by
 rw [IntKind.wrap_i64]
 unfold W64 at h
 unfold si64
 split <;> omega
theorem lays_bak (hS:Sep w0 X (cBlk x (bakO x lv b)::cMem p m L F::Cs) w) (th:Int) (hok:BakOk b m m.ring) (h0:b.next=0) (hL:L≤1073741824) :
   Calls Tryz.prog 119 #[ptr x,ptr p,.int .i64 th] w (BakPost w0 X Cs x p L lv (bakStep m b)):=by
 obtain ⟨size,multi,stamp,l,sig,most,left,laid,at_,word,known,next⟩:=b
 obtain ⟨hm,hr1,hr2⟩:=bak_mem hS
 obtain ⟨k1,k2,k3,-,k5,-,k7,k8,-,-,-,-,-,-⟩:=hok
 simp only at k1 k2 k3 k5 k7 k8 h0
 subst h0
 obtain ⟨k2a,k2b⟩:=k2
 have hstep:bakStep m ⟨size,multi,stamp,l,sig,most,left,laid,at_,word,known,0⟩ =
   (if laid < 8 then (moved,⟨size,multi,stamp,l,sig,most,left,laid+1,at_,word,known,0⟩,m.setSig stamp laid (si64 (sig.getD laid 0)))
   else (moved,if known=true then readyB ⟨size,multi,stamp,l,sig,most,left,laid,at_,word,known,0⟩ else olderB ⟨size,multi,stamp,l,sig,most,left,laid,at_,word,known,0⟩ (stamp - 1),m.setHead stamp (headI stamp false))):=rfl
 generalize bakStep m ⟨size,multi,stamp,l,sig,most,left,laid,at_,word,known,0⟩=R at hstep ⊢
 have HSTEP:=kH hstep
 have HS:=kH hS
 have c2:=hS.cell 2
 have c14:=hS.cell 14
 have c17:=hS.cell 17
 have f14:=hS.froz 14
 simp only [bakA,gA,gZ,gS] at c2 c14 c17
 have HSL:=kH (fun q=>slot_bak (hS.drewN q) stamp (by simp only;omega))
 simp only [k1] at HSL
 have hl24:left≤24:=by omega
 by_cases h8:laid < 8
 · have hc:=bakA_word hS laid h8
   simp only at hc
   have hwr:=si64_wrap (getD_W64 k5.2 laid)
   have hv:I64 (si64 (sig.getD laid 0)):=si64_I64 (getD_W64 k5.2 laid)
   have HST:=kH (fun q=>(hS.drewN q).sw.storeSig th stamp laid (si64 (sig.getD laid 0)) ⟨by omega,by omega⟩ hv hL)
   have H8:=kH h8
   generalize hsv:sig.getD laid 0=sv at *
   have HSV:=kH hsv
   clear hsv
   have h8':(laid:Int) < 8:=by omega
   clear hstep hS hv k5
   unfold ptr at *
   go_enter Tryz.func119,Tryz.ntmps119
   go_wp2_with fail
   go_region_held3 (fun w'=>w'.cell? ⟨x,2,none⟩=some (.int .i64 stamp)∧w'.cell? ⟨x,14,none⟩=some (.int .i64 (laid:Int))∧w'.cell? ⟨x,4+laid,none⟩=some (.int .u64 sv)) (go_keep) (first | (go_at_call 176;refine (HSL.out _).mono ?_;rintro e w' ⟨rfl,rfl⟩) | (go_at_call 175;refine (HST.out _).mono ?_;rintro e2 w2 ⟨rfl,F2,S2⟩;have l2:=S2.sw.cell 2;have l14:=S2.sw.cell 14;have lc:=bakA_word S2.sw laid H8.out;simp only [HSV.out] at lc;simp only [bakA,gA,gZ,gS] at l2 l14;have HS2:=kH S2.sw;clear S2))
   have l14:=HS2.out.cell 14
   have g14:=HS2.out.froz 14
   simp only [bakA,gA,gZ,gS] at l14
   clear c2 c14 c17 f14 hc
   go_wp2
   go_ret
   have hR:=HSTEP.out
   rw [if_pos H8.out] at hR
   subst hR
   refine ⟨rfl,F2,?_⟩
   have h:=HS2.out.set 14 (.int .i64 ((laid:Int)+1))
   have e:(((laid+1:Nat)):Int)=(laid:Int)+1:=by omega
   show Sep w0 X (cBlk x (.cells #[_,_,_,_,_,_,_,_,_,_,_,_,_,_,.int .i64 ((laid+1:Nat):Int),_,_,_,_] _ (0,0))::_) _
   rw [e]
   exact h
 · have H8:=kH h8
   have hh64:I64 (headI stamp false):=by unfold headI I64;simp;omega
   have HHD:=kH (fun W=>Head_calls stamp false (by omega) k2b W)
   have HST:=kH (fun q=>(hS.drewN q).sw.storeHead th stamp (headI stamp false) hh64 hL)
   have h8':¬ (laid:Int) < 8:=by omega
   generalize headI stamp false=hv at *
   have hw1:IntKind.i64.wrap (stamp - 1)=stamp - 1:=IntWalk.i64_in _ (by omega)
   clear hstep hS hh64 k5
   unfold ptr at *
   go_enter Tryz.func119,Tryz.ntmps119
   go_wp2_with fail
   go_region_held3 (fun w'=>w'.cell? ⟨x,2,none⟩=some (.int .i64 stamp)) (go_keep) (first | (go_at_call 176;refine (HSL.out _).mono ?_;rintro e w' ⟨rfl,rfl⟩) | (go_at_call 177;refine (HHD.out _).mono ?_;rintro e w' ⟨rfl,rfl⟩) | (go_at_call 175;refine (HST.out _).mono ?_;rintro e2 w2 ⟨rfl,F2,S2⟩;have l2:=S2.sw.cell 2;simp only [bakA,gA,gZ,gS] at l2;have HS2:=kH S2.sw;clear S2))
   have l17:=HS2.out.cell 17
   simp only [bakA,gA,gZ,gS] at l17
   clear c2 c14 c17 f14
   cases known
   · go_wp2_with fail
     refine (older_bak HS2.out (stamp - 1) hl24 (by unfold I64;omega) ⟨k2a,k2b⟩ (by simp only;omega)).mono ?_
     rintro e w3 ⟨rfl,S3⟩
     have HS3:=kH S3
     clear S3
     go_wp2
     go_ret
     have hR:=HSTEP.out
     rw [if_neg H8.out] at hR
     subst hR
     exact ⟨rfl,F2,HS3.out⟩
   · go_wp2_with fail
     refine (ready_bak HS2.out hl24).mono ?_
     rintro e w3 ⟨rfl,S3⟩
     have HS3:=kH S3
     clear S3
     go_wp2
     go_ret
     have hR:=HSTEP.out
     rw [if_neg H8.out] at hR
     subst hR
     exact ⟨rfl,F2,HS3.out⟩
end
section
open Go.RowKit
variable {w0:World} {X:List Nat} {Cs:List Comp} {w:World} {x p L:Nat} {lv:Value} {F:List Nat} {m:MemD} {b:BakD}
theorem wordingB_word {size:Int} {multi:Bool} {stamp:Int} {l:List (Int×Int)} {sig:List Int} {most:Int} {left laid:Nat} {at_ word word':Int} {known:Bool} {next:Nat} {j:Nat} :
   wordingB ⟨size,multi,stamp,l,sig,most,left,laid,at_,word,known,next⟩ j=wordingB ⟨size,multi,stamp,l,sig,most,left,laid,at_,word',known,next⟩ j:=rfl
theorem looks_bak (hS:Sep w0 X (cBlk x (bakO x lv b)::cMem p m L F::Cs) w) (th:Int) (hok:BakOk b m m.ring) (h0:b.next=1) (hL:L≤1073741824) :
   Calls Tryz.prog 222 #[ptr x,ptr p,.int .i64 th] w (BakPost w0 X Cs x p L lv (bakStep m b)):=by
 obtain ⟨size,multi,stamp,l,sig,most,left,laid,at_,word,known,next⟩:=b
 obtain ⟨hm,hr1,hr2⟩:=bak_mem hS
 obtain ⟨k1,k2,k3,-,k5,-,k7,k8,-,ka,ka64,kw,kw2,kwr⟩:=hok
 simp only at k1 k2 k3 k5 k7 k8 h0 ka ka64 kw kw2 kwr
 subst h0
 obtain ⟨k2a,k2b⟩:=k2
 have kat:=ka (.inl rfl)
 have hstep:bakStep m ⟨size,multi,stamp,l,sig,most,left,laid,at_,word,known,1⟩ =
   (if overH (m.head at_) at_=true then (moved,overB ⟨size,multi,stamp,l,sig,most,left,laid,at_,word,known,1⟩,m) else if stampH (m.head at_)=at_ then (moved,wordingB ⟨size,multi,stamp,l,sig,most,left,laid,at_,word,known,1⟩ 0,m) else (waits,⟨size,multi,stamp,l,sig,most,left,laid,at_,word,known,1⟩,m)):=rfl
 generalize bakStep m ⟨size,multi,stamp,l,sig,most,left,laid,at_,word,known,1⟩=R at hstep ⊢
 have HSTEP:=kH hstep
 have HS:=kH hS
 have c15:=hS.cell 15
 simp only [bakA,gA,gZ,gS] at c15
 have hl24:left≤24:=by omega
 have HH:=kH (head_bak hS th at_ k1 ⟨hr1,hr2⟩ hL)
 have HO:=kH (fun W=>Over_calls (m.head at_) at_ W)
 have HLD:=kH (fun W=>Laid_calls (m.head at_) at_ W)
 clear hstep hS ka kw2 kwr
 generalize overH (m.head at_) at_=ov at *
 generalize hld:decide (stampH (m.head at_)=at_)=ld at *
 have HLDE:=kH hld
 clear hld
 unfold ptr at *
 go_enter Tryz.func222,Tryz.ntmps222
 go_wp2_with fail
 refine HH.out.mono ?_
 rintro e w2 ⟨rfl,F2,S2⟩
 have HS2:=kH S2
 have l15:=S2.cell 15
 have l16:=S2.cell 16
 have g16:=S2.froz 16
 simp only [bakA,gA,gZ,gS] at l15 l16
 clear S2 c15
 go_wp2_with fail
 refine (HO.out _).mono ?_
 rintro e w3 ⟨rfl,rfl⟩
 cases ov
 · go_wp2_with fail
   refine (HLD.out _).mono ?_
   rintro e w3 ⟨rfl,rfl⟩
   cases ld
   · go_wp2
     go_ret
     have hR:=HSTEP.out
     rw [if_neg (by simp),if_neg (by have:=HLDE.out;simpa using this)] at hR
     subst hR
     exact ⟨rfl,F2,HS2.out⟩
   · go_wp2_with fail
     refine Calls.mono (wording_bak (b:=⟨size,multi,stamp,l,sig,most,left,laid,at_,-1,known,1⟩) (HS2.out.set 16 (.int .i64 (-1))) 0 (by omega) rfl hl24 ⟨ka64,by simp only;omega⟩ ⟨k2a,k2b⟩ (by simp only;omega)) ?_
     rintro e w3 ⟨rfl,S3⟩
     have HS3:=kH S3
     clear S3
     go_wp2
     go_ret
     have hR:=HSTEP.out
     rw [if_neg (by simp),if_pos (by have:=HLDE.out;simpa using this)] at hR
     subst hR
     exact ⟨rfl,F2,by rw [wordingB_word] at HS3;exact HS3.out⟩
 · go_wp2_with fail
   refine (over_bak HS2.out hl24 ⟨k2a,k2b⟩).mono ?_
   rintro e w3 ⟨rfl,S3⟩
   have HS3:=kH S3
   clear S3
   go_wp2
   go_ret
   have hR:=HSTEP.out
   rw [if_pos trivial] at hR
   subst hR
   exact ⟨rfl,F2,HS3.out⟩
theorem waits_bak (hS:Sep w0 X (cBlk x (bakO x lv b)::cMem p m L F::Cs) w) (th:Int) (hok:BakOk b m m.ring) (h0:b.next=3) (hL:L≤1073741824) :
   Calls Tryz.prog 249 #[ptr x,ptr p,.int .i64 th] w (BakPost w0 X Cs x p L lv (bakStep m b)):=by
 obtain ⟨size,multi,stamp,l,sig,most,left,laid,at_,word,known,next⟩:=b
 obtain ⟨hm,hr1,hr2⟩:=bak_mem hS
 obtain ⟨k1,k2,k3,-,k5,-,k7,k8,-,ka,ka64,kw,kw2,kwr⟩:=hok
 simp only at k1 k2 k3 k5 k7 k8 h0 ka ka64 kw kw2 kwr
 subst h0
 obtain ⟨k2a,k2b⟩:=k2
 have hstep:bakStep m ⟨size,multi,stamp,l,sig,most,left,laid,at_,word,known,3⟩ =
   (if overH (m.head at_) at_=true then (moved,overB ⟨size,multi,stamp,l,sig,most,left,laid,at_,word,known,3⟩,m) else (waits,⟨size,multi,stamp,l,sig,most,left,laid,at_,word,known,3⟩,m)):=rfl
 generalize bakStep m ⟨size,multi,stamp,l,sig,most,left,laid,at_,word,known,3⟩=R at hstep ⊢
 have HSTEP:=kH hstep
 have HS:=kH hS
 have c15:=hS.cell 15
 simp only [bakA,gA,gZ,gS] at c15
 have hl24:left≤24:=by omega
 have HH:=kH (fun q=>head_bak (hS.drewN q) th at_ k1 ⟨hr1,hr2⟩ hL)
 have HO:=kH (fun W=>Over_calls (m.head at_) at_ W)
 clear hstep hS ka kw2 kwr
 generalize overH (m.head at_) at_=ov at *
 unfold ptr at *
 go_enter Tryz.func249,Tryz.ntmps249
 go_wp2_with fail
 go_region_held3 (fun w'=>w'.cell? ⟨x,15,none⟩=some (.int .i64 at_)) (go_keep) (first | (go_at_call 172;refine (HO.out _).mono ?_;rintro e w' ⟨rfl,rfl⟩) | (go_at_call 229;refine (HH.out _).mono ?_;rintro e2 w2 ⟨rfl,F2,S2⟩;have l15:=S2.cell 15;simp only [bakA,gA,gZ,gS] at l15;have HS2:=kH S2;clear S2))
 cases ov
 · go_wp2
   go_ret
   have hR:=HSTEP.out
   rw [if_neg (by simp)] at hR
   subst hR
   exact ⟨rfl,F2,HS2.out⟩
 · go_wp2_with fail
   refine (over_bak HS2.out hl24 ⟨k2a,k2b⟩).mono ?_
   rintro e w3 ⟨rfl,S3⟩
   have HS3:=kH S3
   clear S3
   go_wp2
   go_ret
   have hR:=HSTEP.out
   rw [if_pos trivial] at hR
   subst hR
   exact ⟨rfl,F2,HS3.out⟩
theorem orders_bak (hS:Sep w0 X (cBlk x (bakO x lv b)::cMem p m L F::Cs) w) (th:Int) (hok:BakOk b m m.ring) (h0:b.next=5) (hL:L≤1073741824) :
   Calls Tryz.prog 220 #[ptr x,ptr p,.int .i64 th] w (BakPost w0 X Cs x p L lv (bakStep m b)):=by
 obtain ⟨size,multi,stamp,l,sig,most,left,laid,at_,word,known,next⟩:=b
 obtain ⟨hm,hr1,hr2⟩:=bak_mem hS
 obtain ⟨k1,k2,k3,-,k5,-,k7,k8,-,ka,ka64,kw,kw2,kwr⟩:=hok
 simp only at k1 k2 k3 k5 k7 k8 h0 ka ka64 kw kw2 kwr
 subst h0
 obtain ⟨k2a,k2b⟩:=k2
 have hstep:bakStep m ⟨size,multi,stamp,l,sig,most,left,laid,at_,word,known,5⟩ =
   (if overH (m.head (stamp - 1)) (stamp - 1)=true then (moved,readyB ⟨size,multi,stamp,l,sig,most,left,laid,at_,word,true,5⟩,m) else (waits,⟨size,multi,stamp,l,sig,most,left,laid,at_,word,known,5⟩,m)):=rfl
 generalize bakStep m ⟨size,multi,stamp,l,sig,most,left,laid,at_,word,known,5⟩=R at hstep ⊢
 have HSTEP:=kH hstep
 have HS:=kH hS
 have c2:=hS.cell 2
 simp only [bakA,gA,gZ,gS] at c2
 have hl24:left≤24:=by omega
 have HH:=kH (fun q=>head_bak (hS.drewN q) th (stamp - 1) k1 ⟨hr1,hr2⟩ hL)
 have HO:=kH (fun W=>Over_calls (m.head (stamp - 1)) (stamp - 1) W)
 have hw1:IntKind.i64.wrap (stamp - 1)=stamp - 1:=IntWalk.i64_in _ (by omega)
 clear hstep hS ka kw2 kwr
 generalize overH (m.head (stamp - 1)) (stamp - 1)=ov at *
 unfold ptr at *
 go_enter Tryz.func220,Tryz.ntmps220
 go_wp2_with fail
 go_region_held3 (fun w'=>w'.cell? ⟨x,2,none⟩=some (.int .i64 stamp)) (go_keep) (first | (go_at_call 172;refine (HO.out _).mono ?_;rintro e w' ⟨rfl,rfl⟩) | (go_at_call 229;refine (HH.out _).mono ?_;rintro e2 w2 ⟨rfl,F2,S2⟩;have l2:=S2.cell 2;simp only [bakA,gA,gZ,gS] at l2;have HS2:=kH S2;clear S2))
 have l17:=HS2.out.cell 17
 have g17:=HS2.out.froz 17
 simp only [bakA,gA,gZ,gS] at l17
 cases ov
 · go_wp2
   go_ret
   have hR:=HSTEP.out
   rw [if_neg (by simp)] at hR
   subst hR
   exact ⟨rfl,F2,HS2.out⟩
 · go_wp2_with fail
   refine Calls.mono (ready_bak (b:=⟨size,multi,stamp,l,sig,most,left,laid,at_,word,true,5⟩) (HS2.out.set 17 (.bool true)) hl24) ?_
   rintro e w3 ⟨rfl,S3⟩
   have HS3:=kH S3
   clear S3
   go_wp2
   go_ret
   have hR:=HSTEP.out
   rw [if_pos trivial] at hR
   subst hR
   exact ⟨rfl,F2,HS3.out⟩
theorem ends_bak (hS:Sep w0 X (cBlk x (bakO x lv b)::cMem p m L F::Cs) w) (th:Int) (hok:BakOk b m m.ring) (h0:b.next=6) (hL:L≤1073741824) :
   Calls Tryz.prog 221 #[ptr x,ptr p,.int .i64 th] w (BakPost w0 X Cs x p L lv (bakStep m b)):=by
 obtain ⟨size,multi,stamp,l,sig,most,left,laid,at_,word,known,next⟩:=b
 obtain ⟨hm,hr1,hr2⟩:=bak_mem hS
 obtain ⟨k1,k2,k3,-,k5,-,k7,k8,-,ka,ka64,kw,kw2,kwr⟩:=hok
 simp only at k1 k2 k3 k5 k7 k8 h0 ka ka64 kw kw2 kwr
 subst h0
 obtain ⟨k2a,k2b⟩:=k2
 have hstep:bakStep m ⟨size,multi,stamp,l,sig,most,left,laid,at_,word,known,6⟩ =
   (doneA 0,⟨size,multi,stamp,l,sig,most,left,laid,at_,word,known,7⟩,m.setHead stamp (headI stamp true)):=rfl
 generalize bakStep m ⟨size,multi,stamp,l,sig,most,left,laid,at_,word,known,6⟩=R at hstep ⊢
 have HSTEP:=kH hstep
 have c2:=hS.cell 2
 simp only [bakA,gA,gZ,gS] at c2
 have HSL:=kH (fun q=>slot_bak (hS.drewN q) stamp (by simp only;omega))
 simp only [k1] at HSL
 have hh64:I64 (headI stamp true):=by unfold headI I64;simp;omega
 have HHD:=kH (fun W=>Head_calls stamp true (by omega) k2b W)
 have HST:=kH (fun q=>(hS.drewN q).sw.storeHead th stamp (headI stamp true) hh64 hL)
 generalize headI stamp true=hv at *
 clear hstep hS ka kw2 kwr hh64 k5
 unfold ptr at *
 go_enter Tryz.func221,Tryz.ntmps221
 go_wp2_with fail
 go_region_held3 (fun w'=>w'.cell? ⟨x,2,none⟩=some (.int .i64 stamp)) (go_keep) (first | (go_at_call 176;refine (HSL.out _).mono ?_;rintro e w' ⟨rfl,rfl⟩) | (go_at_call 177;refine (HHD.out _).mono ?_;rintro e w' ⟨rfl,rfl⟩) | (go_at_call 175;refine (HST.out _).mono ?_;rintro e2 w2 ⟨rfl,F2,S2⟩;have l2:=S2.sw.cell 2;simp only [bakA,gA,gZ,gS] at l2;have HS2:=kH S2.sw;clear S2))
 have l18:=HS2.out.cell 18
 have g18:=HS2.out.froz 18
 simp only [bakA,gA,gZ,gS,nextV,mval] at l18
 clear c2
 go_wp2
 go_ret
 have hR:=HSTEP.out
 subst hR
 exact ⟨rfl,F2,HS2.out.set 18 .nilFunc⟩
end
section
open Go.RowKit
variable {w0:World} {X:List Nat} {Cs:List Comp} {w:World} {x p L:Nat} {lv:Value} {F:List Nat} {m:MemD} {b:BakD}
theorem words_bak (hS:Sep w0 X (cBlk x (bakO x lv b)::cMem p m L F::Cs) w) (th:Int) (hok:BakOk b m m.ring) (h0:b.next=2) (hL:L≤1073741824) :
   Calls Tryz.prog 243 #[ptr x,ptr p,.int .i64 th] w (BakPost w0 X (Cs) x p L lv (bakStep m b)):=by
 obtain ⟨size,multi,stamp,l,sig,most,left,laid,at_,word,known,next⟩:=b
 obtain ⟨hm,hr1,hr2⟩:=bak_mem hS
 obtain ⟨k1,k2,k3,kl,k5,-,k7,k8,-,ka,ka64,kw,kw2,kwr⟩:=hok
 simp only at k1 k2 k3 kl k5 k7 k8 h0 ka ka64 kw kw2 kwr
 subst h0
 obtain ⟨k2a,k2b⟩:=k2
 have kat:=ka (.inr (.inl rfl))
 obtain ⟨kwa,kwb⟩:=kw2 rfl
 obtain ⟨k,rfl⟩:=Int.eq_ofNat_of_zero_le kwa
 have hk8:k < 8:=by omega
 have hstep:bakStep m ⟨size,multi,stamp,l,sig,most,left,laid,at_,(k:Int),known,2⟩ =
   (if share (m.sig at_ k) (sig.getD k 0)=true then (moved,⟨size,multi,stamp,l,sig,most,left,laid,at_,(k:Int),known,3⟩,m) else (moved,wordingB ⟨size,multi,stamp,l,sig,most,left,laid,at_,(k:Int),known,2⟩ (k+1),m)):=rfl
 generalize bakStep m ⟨size,multi,stamp,l,sig,most,left,laid,at_,(k:Int),known,2⟩=R at hstep ⊢
 have HSTEP:=kH hstep
 have c15:=hS.cell 15
 have c16:=hS.cell 16
 simp only [bakA,gA,gZ,gS] at c15 c16
 have hl24:left≤24:=by omega
 have HSL:=kH (fun q=>slot_bak (hS.drewN q) at_ (by simp only;omega))
 simp only [k1] at HSL
 have HLD:=kH (fun q=>(hS.drewN q).sw.loadSig th at_ k ⟨by omega,by omega⟩ hL)
 have hsg:I64 (m.sig at_ k):=getD_I64 hm.s64 _
 have hrd:=getD_W64 k5.2 k
 have hun:IntKind.u64.wrap (m.sig at_ k)=un64 (m.sig at_ k):=by rw [IntKind.wrap_u64];rfl
 have hshr:share (m.sig at_ k) (sig.getD k 0)=(bits .and .u64 (un64 (m.sig at_ k)) (sig.getD k 0) != 0):=by
   unfold share
   rw [Bool.eq_iff_iff,decide_eq_true_eq,bne_iff_ne]
 have HSHR:=kH hshr
 have HK8:=kH hk8
 generalize hy:sig.getD k 0=y at *
 have HY:=kH hy
 generalize hshb:(bits .and .u64 (un64 (m.sig at_ k)) y != 0)=sb at *
 unfold I64 at hsg
 unfold W64 at hrd
 clear hstep hS ka kw2 kwr k5 hshr hy
 unfold ptr at *
 go_enter Tryz.func243,Tryz.ntmps243
 go_wp2_with fail
 go_region_held3 (fun w'=>w'.cell? ⟨x,15,none⟩=some (.int .i64 at_)∧w'.cell? ⟨x,16,none⟩=some (.int .i64 (k:Int))) (go_keep) (first | (go_at_call 176;refine (HSL.out _).mono ?_;rintro e w' ⟨rfl,rfl⟩) | (go_at_call 215;refine (HLD.out _).mono ?_;rintro e2 w2 ⟨rfl,F2,S2⟩;have l15:=S2.sw.cell 15;have l16:=S2.sw.cell 16;simp only [bakA,gA,gZ,gS] at l15 l16;have HS2:=kH S2.sw;clear S2))
 have lw:=bakA_word HS2.out k HK8.out
 simp only [HY.out] at lw
 have l18:=HS2.out.cell 18
 have g18:=HS2.out.froz 18
 simp only [bakA,gA,gZ,gS] at l18
 clear c15 c16
 go_wp2_with fail
 go_quiet (fail)
 cases sb
 · go_wp2_with fail
   refine (wording_bak (HS2.out.drewN _) (k+1) (by omega) (by simp only;omega) hl24 ⟨ka64,by simp only;omega⟩ ⟨k2a,k2b⟩ (by simp only;omega)).mono ?_
   rintro e w3 ⟨rfl,S3⟩
   have HS3:=kH S3
   clear S3
   go_wp2
   go_ret
   have hR:=HSTEP.out
   rw [HSHR.out,if_neg (by simp)] at hR
   subst hR
   exact ⟨rfl,F2,HS3.out⟩
 · go_wp2
   go_ret
   have hR:=HSTEP.out
   rw [HSHR.out,if_pos rfl] at hR
   subst hR
   exact ⟨rfl,F2,(HS2.out.drewN _).set 18 (mval 249 x)⟩
theorem bakA_left (h:0 < b.left):(bakA x lv b).setIfInBounds 13 (.int .i64 ((b.left:Int) - 1))=bakA x lv { b with left:=b.left - 1 }:=by
 have e:((b.left - 1:Nat):Int)=(b.left:Int) - 1:=by omega
 unfold bakA
 simp only [e]
 rfl
theorem writes_bak {l0:List (Int×Int)} (hS:Sep w0 X (cBlk x (bakO x lv b)::cMem p m L F::cWr lv l0::Cs) w) (th:Int) (hl0:b.l=l0) (hok:BakOk b m m.ring) (h0:b.next=4) (hL:L≤1073741824) :
   Calls Tryz.prog 219 #[ptr x,ptr p,.int .i64 th] w (BakPost w0 X (cWr lv l0::Cs) x p L lv (bakStep m b)):=by
 obtain ⟨size,multi,stamp,l,sig,most,left,laid,at_,word,known,next⟩:=b
 obtain ⟨hm,hr1,hr2⟩:=bak_mem hS
 obtain ⟨k1,k2,k3,kl,k5,-,k7,k8,-,ka,ka64,kw,kw2,kwr⟩:=hok
 simp only at k1 k2 k3 kl k5 k7 k8 h0 ka ka64 kw kw2 kwr
 subst h0
 obtain ⟨k2a,k2b⟩:=k2
 simp only at hl0
 subst hl0
 have hlp:=kwr rfl
 have hstep:bakStep m ⟨size,multi,stamp,l,sig,most,left,laid,at_,word,known,4⟩ =
   (moved,readyB ⟨size,multi,stamp,l,sig,most,left - 1,laid,at_,word,known,4⟩,m.setCell (l.getD (l.length - left) (0,0)).1 (l.getD (l.length - left) (0,0)).2):=rfl
 generalize bakStep m ⟨size,multi,stamp,l,sig,most,left,laid,at_,word,known,4⟩=R at hstep ⊢
 have HSTEP:=kH hstep
 have hrow:RowAt w _ _ _ _ _:=hS.h2
 obtain ⟨g,cap,rfl,hcap,hcm,hg,hrf,hcell,hfz⟩:=hrow.read (by omega)
 obtain ⟨i,hi⟩:∃ i,l.length - left=i:=⟨_,rfl⟩
 have hil:i < l.length:=by omega
 obtain ⟨hc0,hc1⟩:=wcells_at l i hil
 have d0:=hcell _ _ hc0
 have d1:=hcell _ _ hc1
 rw [Nat.mul_comm] at d0 d1
 have hmem:=kl _ (show l.getD i (0,0)∈l by rw [List.getD_eq_getElem?_getD,List.getElem?_eq_getElem hil];simp)
 rw [hi] at hstep
 generalize l.getD i (0,0)=cv at *
 obtain ⟨cc,vv⟩:=cv
 simp only at d0 d1 hmem hstep
 obtain ⟨hm0,hm1,hm2⟩:=hmem
 have HSTEP:=kH hstep
 have hll:(l.length:Int) - left=i:=by omega
 obtain ⟨n,hn⟩:∃ n,l.length=n:=⟨_,rfl⟩
 have c3:=hS.cell 3
 have c13:=hS.cell 13
 simp only [bakA,gA,gZ,gS] at c3 c13
 have HS:=kH hS
 have HG:=kH (⟨hm0,hm1,hm2⟩:0≤cc∧cc < m.cells.length∧I64 vv)
 rw [hn] at c3 hll hil k3
 have hxl:=heap_lt hS.h0
 have HN:=kH hn
 have HI:=kH hi
 clear hstep hS ka kw2 kwr hrow hc0 hc1 hcell hfz hrf hn hi kl hm0 hm1 hm2 k5 hm
 unfold maxLen at hcm
 unfold ptr at *
 go_enter Tryz.func219,Tryz.ntmps219
 go_wp2_with fail
 go_region
 have hbx:(w.alloc (.cells #[.int .i64 cc,.int .i64 vv] 218 (0,0))).drew.heap[w.heap.size]?=some _:=heap_new_at (w:=w) rfl
 have S1:=(HS.out.alloc (.cells #[.int .i64 cc,.int .i64 vv] 218 (0,0))).drew
 have HS1:=kH S1
 clear S1
 have b0:=cell_of_row _ _ 0 _ _ _ hbx
 have b1:=cell_of_row _ _ 1 _ _ _ hbx
 simp only [gA,gZ,gS] at b0 b1
 clear hbx c3 c13 d0 d1
 generalize (w.alloc (.cells #[.int .i64 cc,.int .i64 vv] 218 (0,0))).drew=w1 at *
 go_wp2_with fail
 obtain ⟨g1,g2,g3⟩:=HG.out
 refine (HS1.out.sw.storeCell th cc vv ⟨g1,g2⟩ g3 hL).mono ?_
 rintro e w2 ⟨rfl,F2,S2⟩
 have HS2:=kH S2.sw
 have l13:=S2.sw.cell 13
 have f13:=S2.sw.froz 13
 simp only [bakA,gA,gZ,gS] at l13
 have hle:(left:Int) - 1=((left - 1:Nat):Int):=by omega
 have HLE:=kH hle
 clear S2 b0 b1 g1 g2 g3 hle
 go_wp2_with fail
 have S4:=HS2.out.set 13 (.int .i64 ((left:Int) - 1))
 rw [bakA_left (b:=⟨size,multi,stamp,l,sig,most,left,laid,at_,word,known,4⟩) hlp] at S4
 refine (ready_bak S4 (by simp only;omega)).mono ?_
 rintro e w3 ⟨rfl,S5⟩
 have HS5:=kH S5
 clear S4 S5
 go_wp2
 go_ret
 have hR:=HSTEP.out
 subst hR
 exact ⟨rfl,F2,HS5.out⟩
end
section
open Go.RowKit
variable {w0:World} {X:List Nat} {Cs:List Comp} {w:World} {x p L:Nat} {lv:Value} {F:List Nat} {m:MemD} {b:BakD}
theorem bak_ans (m:MemD) (b:BakD) (h:b.next≤6):(bakStep m b).1=⟨(bakStep m b).1.kind,0,0,true⟩:=by
 rcases (show b.next=0∨b.next=1∨b.next=2∨b.next=3∨b.next=4∨b.next=5∨b.next=6 by omega) with e | e | e | e | e | e | e
 all_goals
   unfold bakStep
   rw [e]
   simp only
   repeat' split
   all_goals rfl
theorem most_lt:∀ (l:List (Int×Int)) (n:Int) (a:Int),a < n→(∀ y∈l,y.1 < n)→l.foldl (fun s w=>if s < w.1 then w.1 else s) a < n
 | [],_,_,ha,_=>ha
 | y::l,n,a,ha,h=>most_lt l n _ (by
     show (if a < y.1 then y.1 else a) < n
     split
     · exact h y List.mem_cons_self
     · exact ha) (fun z hz=>h z (List.mem_cons_of_mem _ hz))
theorem run_funcs_nil {P:Program} (w:World) (d:Nat) (t:TypeId) (ps rs:Array TypeId) (v:Bool) (h:P.underlying t=some (.func ps rs v)) (f:Fn) (a c:Array Value):(Op.equalIn (d+1) t (.func f a c) .nilFunc).run P w=.ok false w:=by
 simp [Op.equalIn,run_underlying h]
theorem run_func_nil (w:World) (f:Fn) (a c:Array Value):(Op.equalIn 10000 214 (.func f a c) .nilFunc).run Tryz.prog w=.ok false w :=
 run_funcs_nil w 9999 _ _ _ _ Tryz.underlying214 f a c
theorem run_eql_func_nil (w:World) (f:Fn) (a c:Array Value):(binOp .eql 214 (.func f a c) .nilFunc).run Tryz.prog w=.ok (.bool false) w:=by
 have h:=run_func_nil w f a c
 simp [binOp,Op.equal,Op.maxDepth,h]
attribute [local go_sem] run_eql_func_nil
theorem next_bak (hS:Sep w0 X (cBlk x (bakO x lv b)::cMem p m L F::cWr lv b.l::Cs) w) (th:Int) (hok:BakOk b m m.ring) (hL:L≤1073741824) :
   ∃ f,nextV x b.next=mval f x∧Calls Tryz.prog f #[ptr x,ptr p,.int .i64 th] w (BakPost w0 X (cWr lv b.l::Cs) x p L lv (bakStep m b)):=by
 have hn:=hok.next
 rcases (show b.next=0∨b.next=1∨b.next=2∨b.next=3∨b.next=4∨b.next=5∨b.next=6 by omega) with e | e | e | e | e | e | e
 · exact ⟨_,by rw [e];rfl,lays_bak hS th hok e hL⟩
 · exact ⟨_,by rw [e];rfl,looks_bak hS th hok e hL⟩
 · exact ⟨_,by rw [e];rfl,words_bak hS th hok e hL⟩
 · exact ⟨_,by rw [e];rfl,waits_bak hS th hok e hL⟩
 · exact ⟨_,by rw [e];rfl,writes_bak hS th rfl hok e hL⟩
 · exact ⟨_,by rw [e];rfl,orders_bak hS th hok e hL⟩
 · exact ⟨_,by rw [e];rfl,ends_bak hS th hok e hL⟩
theorem Step_bak (hS:Sep w0 X (cBlk x (bakO x lv b)::cMem p m L F::cWr lv b.l::Cs) w) (th:Int) (hok:BakOk b m m.ring) (hL:L≤1073741824) :
   Calls Tryz.prog 284 #[ptr x,ptr p,.int .i64 th] w (fun e w'=>e=.returned (bakStep m b).1.val∧∃ F',Sep w0 X (cBlk x (bakO x lv (bakStep m b).2.1)::cMem p (bakStep m b).2.2 (L+1) F'::cWr lv b.l::Cs) w'):=by
 have ha:=bak_ans m b hok.next
 have HS0:=kH ((hS.new ans0).sw.s23)
 have HNX:Hid (∀ {W:World} {F':List Nat} {C':List Comp},Sep w0 X (cBlk x (bakO x lv b)::cMem p m L F'::cWr lv b.l::C') W→∃ f,nextV x b.next=mval f x∧Calls Tryz.prog f #[ptr x,ptr p,.int .i64 th] W (BakPost w0 X (cWr lv b.l::C') x p L lv (bakStep m b))):=fun S=>next_bak S th hok hL
 have hsz:=hok.size
 have hrow:RowAt w _ _ _ _ _:=hS.h2
 obtain ⟨la,lc,hlv,hlc,hlm⟩:=hrow.slice
 have hlen:=hok.len
 have hmost:0 < b.l.length→b.most < m.cells.length:=fun h=>by
   rw [hok.most]
   have hm:MemOk m:=(hS.h1:RepM w p m L F).ok
   have:=hm.cells
   exact most_lt _ _ _ (by omega) (fun y hy=>(hok.list y hy).2.1)
 generalize bakStep m b=R at *
 obtain ⟨a,b',m'⟩:=R
 simp only at ha HNX
 generalize a.kind=kd at *
 subst ha
 have c0:=(hS.new ans0).sw.cell 0
 have c3:=(hS.new ans0).sw.cell 3
 have c12:=(hS.new ans0).sw.cell 12
 have c18:=(hS.new ans0).sw.cell 18
 simp only [bakA,gA,gZ,gS,hsz,hlv,ans0] at c0 c3 c12 c18
 have hnx:=hok.next
 generalize b.l.length=n at *
 have HLV:=kH hlv
 have HSZ:=kH hsz
 clear hS hok hrow hsz hlv
 generalize hbn:b.next=bn at *
 have HBN:=kH hbn
 clear hbn
 rcases (show bn=0∨bn=1∨bn=2∨bn=3∨bn=4∨bn=5∨bn=6 by omega) with rfl | rfl | rfl | rfl | rfl | rfl | rfl
 all_goals
   simp only [nextV,mval] at c18
   unfold ptr at *
   go_enter Tryz.func284,Tryz.ntmps284
   go_wp2_with fail
   refine (HS0.out.sw.sizes).mono ?_
   rintro e w1 ⟨rfl,S1⟩
   have S2:=S1.sw
   have k0:=S2.cell 0
   have k3:=S2.cell 3
   have k12:=S2.cell 12
   have k18:=S2.cell 18
   simp only [bakA,gA,gZ,gS,HSZ.out,HLV.out,HBN.out,nextV,mval,ptr] at k0 k3 k12 k18
   obtain ⟨f',hf',hcall⟩:=HNX.out S2.f3.b2
   simp only [nextV,mval] at hf'
   injection hf' with h1 h2 h3
   injection h1 with h1
   subst h1
   have HC:=kH hcall
   clear hcall h2 h3 c0 c3 c12 c18 S1 S2
   rcases (show n=0∨0 < n by omega) with hn | hn
   all_goals
     first
       | subst hn
       | (have hml:=hmost hn
          have hn':(0:Int) < (n:Int):=by omega)
     clear hmost
     go_wp2_with fail
     refine HC.out.mono ?_
     rintro e w2 ⟨rfl,F2,S3⟩
     have HS3:=kH S3
     obtain ⟨⟨a0,a1,a2,a3⟩,⟨g0,g1,g2,g3⟩⟩:=S3.f3.ansBox
     clear S3
     go_wp2
     refine HS3.out.f3.ret ⟨kd,0,0,true⟩ rfl rfl rfl (fun W' S=>?_)
     exact ⟨rfl,F2,S⟩
end
end Go.Proofs.YtgfogfciobmmpaaGreatDoor
