/- A part of the proof of the law TopTells: Stp Thr3 Stp3 Stp4. -/
import Derived.Test.YtgfogfciobmmpaaGreatDoorPAx
set_option linter.unusedSimpArgs false
set_option linter.unusedVariables false
set_option maxRecDepth 100000
set_option maxHeartbeats 8000000
namespace Go.Proofs.YtgfogfciobmmpaaGreatDoor
section
open Go.RowKit
variable {w0:World} {X:List Nat} {Cs:List Comp} {w:World} {x p L:Nat} {wv tv:Value} {t:TxD} {q:LogP} {F:List Nat} {m:MemD}
def wayC (a k:Nat) (lv:Value):WayD→List Comp→List Comp
 | .no,Cs=>Cs
 | .beg b,Cs=>cBlk a (begO b)::Cs
 | .fet f,Cs=>cBlk a (fetO k f)::cBlk k (chkO f.chk)::Cs
 | .com c,Cs=>cBlk a (comO a k c)::cBlk k (chkO c.chk)::Cs
 | .bak b,Cs=>cBlk a (bakO a lv b)::cWr lv b.l::Cs
def StepTx (w0:World) (X:List Nat) (Cs:List Comp) (x p L:Nat) (q:LogP) (r:AnsD×TxD×MemD) (e:Ending) (w':World):Prop :=
 e=.returned r.1.val∧∃ q' a k lv tv' F' L',q'.g=q.g∧q'.most=q.most∧LogP.R q' r.2.1.list∧L'≤L+1∧Sep w0 X (txC x q' (wayV r.2.1.way a) tv' r.2.1 (wayC a k lv r.2.1.way (cMem p r.2.2 L' F'::Cs))) w'
theorem Step_tx_beg {a:Nat} {b:BegD} (hS:Sep w0 X (txC x q (wayV (.beg b) a) tv t (cBlk a (begO b)::cMem p m L F::Cs)) w) (hw:t.way=.beg b) (hr:q.R t.list) (th:Int) (hok:BegOk b m.ring) (hn:t.told.length≤1073741824) (hL:L≤1073741824) :
   Calls Tryz.prog 42 #[ptr x,ptr p,.int .i64 th] w (StepTx w0 X Cs x p L q (txStep m t)):=by
 have c21:=hS.cell 21
 simp only [txA,wayV,gA,gZ,gS] at c21
 have hlt:=heap_lt hS.h0
 have hi:=step_is_beg (ptr a)
 have S0:=((Sep.txOutN [_,_] hS).new ans0).b2
 have hmem:MemOk m:=(S0.h1:RepM _ p m L F).ok
 have hbs:=beg_step hmem hok
 have HC:=kH (Sep.step (o':=begO (begStep m b).2) S0 (fun hrep hx=>Step_beg _ a p th b m L F S0.h0 hrep hx hok hL) (fun W' h=>h))
 have hstep:txStep m t=(let r:=goOnT { t with way:=.beg (begStep m b).2 } (begStep m b).1 fun t =>
     ((begStep m b).1,tellT { t with start:=(begStep m b).2.at_,seen:=(begStep m b).2.seen,phase:=2,way:=.no } { ev0 with kind:=1,start:=(begStep m b).2.at_,seen:=(begStep m b).2.seen })
   (r.1,r.2,m)):=by unfold txStep;rw [hw]
 generalize txStep m t=R at hstep ⊢
 generalize begStep m b=B at *
 obtain ⟨an,b'⟩:=B
 simp only at HC hstep hbs
 have HSTEP:=kH hstep
 have HBS:=kH hbs
 have HR:=kH hr
 have HN:=kH hn
 clear hS S0 hw hr hok hn hL hmem hbs hstep
 unfold ptr at *
 go_enter Tryz.func42,Tryz.ntmps42
 go_wp2_with fail
 refine HC.out.mono ?_
 rintro e w1 ⟨rfl,F',S1⟩
 unfold AnsD.val
 have SA:=S1.alloc (ansO an)
 have S2:=S1.f2
 obtain ⟨⟨a0,a1,a2,a3⟩,⟨g0,g1,g2,g3⟩⟩:=S2.ansBox
 have hlt1:=heap_lt S1.h2
 have hbx:=heap_new_at (w:=w1) (o:=ansO an) rfl
 have HSA:=kH SA
 rcases HBS.out with ⟨rfl,hok'⟩ | ⟨rfl,h2,h3,h4,h5⟩
 · have HOK:=kH hok'
   have HS2:=kH S2
   clear S1 SA S2 hok' c21 hbx
   unfold moved ansO at *
   simp only at *
   go_wp2
   have hR:=HSTEP.out
   subst hR
   refine Sep.retA moved rfl HS2.out rfl rfl _ fun W' SF=>⟨rfl,q,a,0,.nilFunc,tv,F',L+1,rfl,rfl,HR.out,Nat.le_refl _,?_⟩
   exact Sep.txInN [_,_] SF
 · have HT:=kH (through_beg (b:=b') (Sep.txInN [_,_,_] SA) h2 HN.out (doneA 0))
   clear S1 SA S2 c21 hbx
   have hR:=HSTEP.out
   subst hR
   unfold doneA ansO AnsD.val at *
   simp only at *
   go_wp2_with fail
   refine HT.out.mono ?_
   rintro e2 w2 ⟨rfl,tv',S4⟩
   have S5:=Sep.txOutN [_,_] S4
   have S6:=S5.sw
   obtain ⟨⟨d0,d1,d2,d3⟩,⟨i0,i1,i2,i3⟩⟩:=S6.ansBox
   have HS6:=kH S6
   clear S4 S5 S6 a0 a1 a2 a3 g0 g1 g2 g3
   go_wp2
   refine Sep.ret (doneA 0) rfl HS6.out rfl rfl fun W' SF=>⟨rfl,q,a,0,.nilFunc,tv',F',L+1,rfl,rfl,HR.out,Nat.le_refl _,?_⟩
   exact Sep.txInN [_] SF
end
section
open Go.RowKit
variable {w0:World} {X:List Nat} {Cs:List Comp} {w:World} {x p L:Nat} {wv tv:Value} {t:TxD} {q:LogP} {F:List Nat} {m:MemD}
theorem through_bak {a:Nat} {b:BakD} (hS:Sep w0 X (txC x q (wayV (.bak b) a) tv t Cs) w) (hr:q.R t.list) (hn:t.told.length≤1073741824) (an:AnsD) :
   Calls Tryz.prog 58 #[ptr x,an.val] w (fun e w'=>e=.returned an.val∧∃ q' tv',q'.g=q.g∧q'.most=q.most∧LogP.R q' []∧Sep w0 X (txC x q' .nilIface tv' (overT (tellT t { ev0 with kind:=5,stamp:=t.stamp })) Cs) w'):=by
 have S0:=(hS.new (ansO an)).new ans0
 rw [show (w.alloc (ansO an)).heap.size=w.heap.size+1 by simp] at S0
 have S1:=Sep.txInN [_,_] S0
 have c21:=hS.cell 21
 have c20:=hS.cell 20
 simp only [txA,wayV,gA,gZ,gS] at c20 c21
 have hlt:=heap_lt hS.h0
 have ta:=is_bak_beg a
 have ta2:=is_bak_fet a
 have ta3:=is_bak_com a
 have ta4:=is_bak_bak a
 have HT:=kH (tell_tx S1 { ev0 with kind:=5,stamp:=t.stamp } hn)
 have HR:=kH hr
 unfold AnsD.val
 clear hS S0 S1 hr hn
 unfold ansO evV evL bareE ev0 zero8 at HT
 simp only [List.getD_cons_zero,List.getD_cons_succ] at HT
 obtain ⟨st,hst⟩:∃ st,t.stamp=st:=⟨_,rfl⟩
 rw [hst] at c20 HT
 have HST:=kH hst
 clear hst
 unfold ptr at *
 go_enter Tryz.func58,Tryz.ntmps58
 go_wp2_with fail
 refine HT.out.mono ?_
 rintro e1 w1 ⟨rfl,tv',S2⟩
 have S3:Sep w0 X (txC x q (wayV (.bak b) a) tv' (tellT t { ev0 with kind:=5,stamp:=t.stamp }) ([cBlk (w.heap.size+1) ans0,cBlk w.heap.size (ansO an)]++Cs)) w1:=by
   rw [HST.out]
   exact S2
 have HO:=kH (over_tx S3 HR.out)
 clear S2 S3 c20 c21
 go_wp2_with fail
 refine HO.out.mono ?_
 rintro e2 w2 ⟨rfl,q',hg,hm,hR,S4⟩
 have S5:=Sep.txOutN [_,_] S4
 obtain ⟨⟨a0,a1,a2,a3⟩,⟨g0,g1,g2,g3⟩⟩:=S5.ansBox
 have b0:=S5.cell1 0
 have b1:=S5.cell1 1
 have b2:=S5.cell1 2
 have b3:=S5.cell1 3
 simp only [gA,gZ,gS] at b0 b1 b2 b3
 have HS5:=kH S5
 have HG:=kH hg
 have HM:=kH hm
 have HR2:=kH hR
 clear S4 S5 hg hm hR
 go_wp2
 refine Sep.ret an rfl HS5.out rfl rfl fun W' SF=>⟨rfl,q',tv',HG.out,HM.out,HR2.out,SF.drop⟩
end
section
open Go.RowKit
variable {w0:World} {X:List Nat} {Cs:List Comp} {w:World} {x p L:Nat} {wv tv:Value} {t:TxD} {q:LogP} {F:List Nat} {m:MemD}
theorem wording_same (b:BakD) (j:Nat):(wordingB b j).l=b.l:=by
 unfold wordingB olderB readyB
 repeat' split
 all_goals rfl
theorem bak_same (m:MemD) (b:BakD):(bakStep m b).2.1.l=b.l:=by
 unfold bakStep
 repeat' split
 all_goals first | rfl | exact wording_same _ _ | (unfold olderB readyB;repeat' split)
 all_goals rfl
theorem Step_tx_bak {a:Nat} {lv:Value} {f:BakD} (hS:Sep w0 X (txC x q (wayV (.bak f) a) tv t (cBlk a (bakO a lv f)::cWr lv f.l::cMem p m L F::Cs)) w) (hw:t.way=.bak f) (hr:q.R t.list) (th:Int) (hok:BakOk f m m.ring) (hn:t.told.length≤1073741824) (hL:L≤1073741824) :
   Calls Tryz.prog 42 #[ptr x,ptr p,.int .i64 th] w (StepTx w0 X Cs x p L q (txStep m t)):=by
 have c21:=hS.cell 21
 simp only [txA,wayV,gA,gZ,gS] at c21
 have hlt:=heap_lt hS.h0
 have hi:=step_is_bak (ptr a)
 have S0:=(((Sep.txOutN [_,_,_] hS).new ans0).perm (List.perm_append_comm_assoc [_] [_,_,_] _))
 simp only [List.cons_append,List.nil_append] at S0
 have S0:=S0.s23
 have hmem:MemOk m:=(S0.h1:RepM _ p m L F).ok
 have hbs:=bak_step hmem hok
 have hds:=bak_same m f
 have HC:=kH (Step_bak S0 th hok hL)
 have hstep:txStep m t=(let r:=goOnT { t with way:=.bak (bakStep m f).2.1 } (bakStep m f).1 fun t =>
     ((bakStep m f).1,overT (tellT t { ev0 with kind:=5,stamp:=t.stamp }))
   (r.1,r.2,(bakStep m f).2.2)):=by unfold txStep;rw [hw]
 generalize txStep m t=R at hstep ⊢
 generalize bakStep m f=B at *
 obtain ⟨an,b',m'⟩:=B
 simp only at HC hstep hbs hds
 have HSTEP:=kH hstep
 have HBS:=kH hbs
 have HR:=kH hr
 have HN:=kH hn
 have HDS:=kH hds
 clear hds hS S0 hw hr hok hn hL hmem hbs hstep
 unfold ptr at *
 go_enter Tryz.func42,Tryz.ntmps42
 go_wp2_with fail
 refine HC.out.mono ?_
 rintro e w1 ⟨rfl,F',S1⟩
 unfold AnsD.val
 have SA:=S1.alloc (ansO an)
 have S2:=S1.f3
 obtain ⟨⟨a0,a1,a2,a3⟩,⟨g0,g1,g2,g3⟩⟩:=S2.ansBox
 have hlt1:=heap_lt S1.h3
 have hbx:=heap_new_at (w:=w1) (o:=ansO an) rfl
 have HSA:=kH SA
 cases HBS.out with
 | moved hk q1 q2 q3 q4 =>
   have HS2:=kH S2
   clear S1 SA S2 c21 hbx
   unfold moved ansO at *
   simp only at *
   go_wp2
   have hR:=HSTEP.out
   subst hR
   refine Sep.retA moved rfl HS2.out rfl rfl _ fun W' SF=>⟨rfl,q,a,0,lv,tv,F',L+1,rfl,rfl,HR.out,Nat.le_refl _,?_⟩
   have h:=Sep.txInN [_,_,_] SF.s23
   rw [← HDS.out] at h
   exact h
 | waits hk =>
   have HS2:=kH S2
   clear S1 SA S2 c21 hbx
   unfold waits ansO at *
   simp only at *
   go_wp2
   have hR:=HSTEP.out
   subst hR
   refine Sep.retA waits rfl HS2.out rfl rfl _ fun W' SF=>⟨rfl,q,a,0,lv,tv,F',L+1,rfl,rfl,HR.out,Nat.le_refl _,?_⟩
   have h:=Sep.txInN [_,_,_] SF.s23
   rw [← HDS.out] at h
   exact h
 | done q1 q2 q3 =>
   have HT:=kH (through_bak (b:=b') (Sep.txInN [_,_,_,_] SA) HR.out HN.out (doneA 0))
   clear S1 SA S2 c21 hbx
   have hR:=HSTEP.out
   subst hR
   unfold doneA ansO AnsD.val at *
   simp only at *
   go_wp2_with fail
   refine HT.out.mono ?_
   rintro e2 w2 ⟨rfl,q',tv',hg,hm,hR2,S4⟩
   have S6:=(Sep.txOutN [_,_,_,_] S4).drop.sw.drop.sw
   obtain ⟨⟨d0,d1,d2,d3⟩,⟨i0,i1,i2,i3⟩⟩:=S6.ansBox
   have HS6:=kH S6
   have HG:=kH hg
   have HM:=kH hm
   have HR2:=kH hR2
   clear S4 S6 a0 a1 a2 a3 g0 g1 g2 g3 hg hm hR2
   go_wp2
   refine Sep.ret (doneA 0) rfl HS6.out rfl rfl fun W' SF=>⟨rfl,q',a,0,lv,tv',F',L+1,HG.out,HM.out,HR2.out,Nat.le_refl _,?_⟩
   exact Sep.txInN [_] SF
end
section
open Go.RowKit
variable {w0:World} {X:List Nat} {Cs:List Comp} {w:World} {x p L:Nat} {tv:Value} {t:TxD} {q:LogP} {F:List Nat} {m:MemD}
theorem Step_tx_no (hS:Sep w0 X (txC x q .nilIface tv t (cMem p m L F::Cs)) w) (hw:t.way=.no) (hr:q.R t.list) (th:Int) :
   Calls Tryz.prog 42 #[ptr x,ptr p,.int .i64 th] w (StepTx w0 X Cs x p L q (txStep m t)):=by
 have c21:=hS.cell 21
 simp only [txA,gA,gZ,gS] at c21
 have hlt:=heap_lt hS.h0
 have S0:=hS.new ans0
 have hstep:txStep m t=(ansNone,t,m):=by unfold txStep;rw [hw]
 rw [hstep]
 have HS0:=kH S0
 have HR:=kH hr
 have HW:=kH hw
 clear hS S0 hr hw hstep
 unfold ptr at *
 go_enter Tryz.func42,Tryz.ntmps42
 go_wp2
 refine bodyPost_ret (results_cell_row rfl _ _ _ _ _ _ _ rfl HS0.out.h0 Tryz.underlying35 rfl infoAns) rfl ⟨rfl,q,0,0,.nilFunc,tv,F,L,rfl,rfl,HR.out,by omega,?_⟩
 simp only [HW.out]
 exact HS0.out.drop
end
end Go.Proofs.YtgfogfciobmmpaaGreatDoor
