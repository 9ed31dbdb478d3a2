/- A part of the proof of the law TopTells: Stp2. -/
import Derived.Test.YtgfogfciobmmpaaGreatDoorPAy
import Derived.Test.YtgfogfciobmmpaaGreatDoorPAz
set_option linter.unusedSimpArgs false
set_option linter.unusedVariables false
set_option maxRecDepth 100000
set_option maxHeartbeats 8000000
namespace Go.Proofs.YtgfogfciobmmpaaGreatDoor
section
open Go.RowKit
variable {w0:World} {X:List Nat} {Cs:List Comp} {w:World} {x p L:Nat} {wv tv:Value} {t:TxD} {q:LogP} {F:List Nat} {m:MemD}
theorem chk_done_state (m:MemD) (c:ChkD):(chkStep m c).1.kind=3→(chkStep m c).2.state=4:=by
 unfold chkStep
 repeat' split
 all_goals first | (intro h;rfl) | (intro h;first | exact absurd (show (0:Int)=3 from h) (by decide) | exact absurd (show (1:Int)=3 from h) (by decide) | exact absurd (show (2:Int)=3 from h) (by decide) | exact absurd (show (4:Int)=3 from h) (by decide))
theorem fet_done_state (m:MemD) (f:FetD):(fetStep m f).1.kind=3→(fetStep m f).2.chk.state=4:=by
 have hc:=chk_done_state m f.chk
 unfold fetStep
 split
 · intro h
   exact absurd (show (2:Int)=3 from h) (by decide)
 · split
   · rename_i h3
     exact fun _=>hc h3
   · rename_i h3
     exact fun h=>absurd h h3
theorem Step_tx_fet {a k:Nat} {f:FetD} (hS:Sep w0 X (txC x q (wayV (.fet f) a) tv t (cBlk a (fetO k f)::cBlk k (chkO f.chk)::cMem p m L F::Cs)) w) (hw:t.way=.fet f) (hrd:t.reads.length=8) (hr:q.R t.list) (th:Int) (hok:FetOk f m m.ring) (hn:t.told.length≤1073741824) (hL:L≤1073741824) :
   Calls Tryz.prog 42 #[ptr x,ptr p,.int .i64 th] w (StepTx w0 X Cs x p L q (txStep m t)):=by
 have c21:=hS.cell 21
 simp only [txA,wayV,gA,gZ,gS] at c21
 have hlt:=heap_lt hS.h0
 have hi:=step_is_fet (ptr a)
 have S0:=(((Sep.txOutN [_,_,_] hS).new ans0).perm (List.perm_append_comm_assoc [_] [_,_,_] _))
 simp only [List.cons_append,List.nil_append] at S0
 have hmem:MemOk m:=(S0.h2:RepM _ p m L F).ok
 have hbs:=fet_step hmem hok
 have hds:=fet_done_state m f
 have HC:=kH (Step_fet S0 th hok hL)
 have hstep:txStep m t=(let r:=goOnT { t with way:=.fet (fetStep m f).2 } (fetStep m f).1 fun t =>
     ((fetStep m f).1,tellT { t with start:=(fetStep m f).2.chk.start,seen:=(fetStep m f).2.chk.seen,phase:=2,way:=.no } { ev0 with kind:=2,cell:=t.cell,value:=(fetStep m f).1.value,start:=(fetStep m f).2.chk.start,seen:=(fetStep m f).2.chk.seen })
   (r.1,r.2,m)):=by unfold txStep;rw [hw]
 generalize txStep m t=R at hstep ⊢
 generalize fetStep m f=B at *
 obtain ⟨an,b'⟩:=B
 simp only at HC hstep hbs hds
 have HSTEP:=kH hstep
 have HBS:=kH hbs
 have HR:=kH hr
 have HN:=kH hn
 have HDS:=kH hds
 have HRD:=kH hrd
 clear hds hrd hS S0 hw hr hok hn hL hmem hbs hstep
 unfold ptr at *
 go_enter Tryz.func42,Tryz.ntmps42
 go_wp2_with fail
 refine HC.out.mono ?_
 rintro e w1 ⟨rfl,F',S1⟩
 unfold AnsD.val
 have SA:=S1.alloc (ansO an)
 have S2:=S1.f3
 obtain ⟨⟨a0,a1,a2,a3⟩,⟨g0,g1,g2,g3⟩⟩:=S2.ansBox
 have hlt1:=heap_lt S1.h3
 have hbx:=heap_new_at (w:=w1) (o:=ansO an) rfl
 have HSA:=kH SA
 cases HBS.out with
 | moved hk =>
   have HS2:=kH S2
   clear S1 SA S2 c21 hbx
   unfold moved ansO at *
   simp only at *
   go_wp2
   have hR:=HSTEP.out
   subst hR
   refine Sep.retA moved rfl HS2.out rfl rfl _ fun W' SF=>⟨rfl,q,a,k,.nilFunc,tv,F',L+1,rfl,rfl,HR.out,Nat.le_refl _,?_⟩
   exact Sep.txInN [_,_,_] SF
 | waits hk =>
   have HS2:=kH S2
   clear S1 SA S2 c21 hbx
   unfold waits ansO at *
   simp only at *
   go_wp2
   have hR:=HSTEP.out
   subst hR
   refine Sep.retA waits rfl HS2.out rfl rfl _ fun W' SF=>⟨rfl,q,a,k,.nilFunc,tv,F',L+1,rfl,rfl,HR.out,Nat.le_refl _,?_⟩
   exact Sep.txInN [_,_,_] SF
 | done v h1 h2 h3 h4 =>
   have HT:=kH (through_fet (f:=b') (Sep.txInN [_,_,_,_] SA) (HDS.out rfl) HN.out (doneA v))
   clear S1 SA S2 c21 hbx
   have hR:=HSTEP.out
   subst hR
   unfold doneA ansO AnsD.val at *
   simp only at *
   go_wp2_with fail
   refine HT.out.mono ?_
   rintro e2 w2 ⟨rfl,tv',S4⟩
   have S6:=(Sep.txOutN [_,_] S4).sw
   obtain ⟨⟨d0,d1,d2,d3⟩,⟨i0,i1,i2,i3⟩⟩:=S6.ansBox
   have HS6:=kH S6
   clear S4 S6 a0 a1 a2 a3 g0 g1 g2 g3
   go_wp2
   refine Sep.ret (doneA v) rfl HS6.out rfl rfl fun W' SF=>⟨rfl,q,a,k,.nilFunc,tv',F',L+1,rfl,rfl,HR.out,Nat.le_refl _,?_⟩
   exact Sep.txInN [_] SF
 | @fail er _ he =>
   have HT:=kH (ends_tx (Sep.txInN [_,_,_,_] SA) HR.out HRD.out HN.out er true)
   clear S1 SA S2 c21 hbx
   have hR:=HSTEP.out
   subst hR
   unfold failA ansO AnsD.val at *
   simp only at *
   go_wp2_with fail
   refine HT.out.mono ?_
   rintro e2 w2 ⟨rfl,q',tv',hg,hm,hR2,S4⟩
   have S6:=(Sep.txOutN [_,_,_,_] S4).drop.drop.sw
   obtain ⟨⟨d0,d1,d2,d3⟩,⟨i0,i1,i2,i3⟩⟩:=S6.ansBox
   have HS6:=kH S6
   have HG:=kH hg
   have HM:=kH hm
   have HR2:=kH hR2
   clear S4 S6 a0 a1 a2 a3 g0 g1 g2 g3 hg hm hR2
   go_wp2
   refine Sep.ret (endT t er true).1 rfl HS6.out rfl rfl fun W' SF=>⟨rfl,q',a,k,.nilFunc,tv',F',L+1,HG.out,HM.out,HR2.out,Nat.le_refl _,?_⟩
   exact Sep.txInN [_] SF
end
end Go.Proofs.YtgfogfciobmmpaaGreatDoor
