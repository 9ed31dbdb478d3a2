/- A part of the proof of the law TopTells: Stp5. -/
import Derived.Test.YtgfogfciobmmpaaGreatDoorPAz
import Derived.Test.YtgfogfciobmmpaaGreatDoorPBb
set_option linter.unusedSimpArgs false
set_option linter.unusedVariables false
set_option maxRecDepth 100000
set_option maxHeartbeats 8000000
namespace Go.Proofs.YtgfogfciobmmpaaGreatDoor
section
open Go.RowKit
variable {w0:World} {X:List Nat} {Cs:List Comp} {w:World} {x p L:Nat} {wv tv:Value} {t:TxD} {q:LogP} {F:List Nat} {m:MemD}
theorem Step_tx_com {a k:Nat} {f:ComD} (hS:Sep w0 X (txC x q (wayV (.com f) a) tv t (cBlk a (comO a k f)::cBlk k (chkO f.chk)::cMem p m L F::Cs)) w) (hw:t.way=.com f) (hrd:t.reads.length=8) (hwr:t.wrote.length=8) (hr:q.R t.list) (hcfg:1≤t.ring∧t.ring≤16) (hl:0 < t.list.length∧t.list.length≤24) (hlo:∀ y∈t.list,0≤y.1∧y.1 < 1024) (th:Int) (hok:ComOk f m.ring) (hn:t.told.length≤1073741824) (hL:L≤1073741824) :
   Calls Tryz.prog 42 #[ptr x,ptr p,.int .i64 th] w (StepTx w0 X Cs x p L q (txStep m t)):=by
 have c21:=hS.cell 21
 simp only [txA,wayV,gA,gZ,gS] at c21
 have hlt:=heap_lt hS.h0
 have hi:=step_is_com (ptr a)
 have S0:=(((Sep.txOutN [_,_,_] hS).new ans0).perm (List.perm_append_comm_assoc [_] [_,_,_] _))
 simp only [List.cons_append,List.nil_append] at S0
 have hmem:MemOk m:=(S0.h2:RepM _ p m L F).ok
 have hbs:=com_step hmem hok
 have HC:=kH (Step_com S0 th hok hL)
 have hstep:txStep m t=(let r:=goOnT { t with way:=.com (comStep m f).2.1 } (comStep m f).1 fun t =>
     (⟨2,0,0,(comStep m f).1.access⟩,tellT { t with stamp:=(comStep m f).1.value,way:=.bak (newBak t.ring t.multi (comStep m f).1.value t.list),phase:=5 } { ev0 with kind:=4,stamp:=(comStep m f).1.value,sig:=t.wrote })
   (r.1,r.2,(comStep m f).2.2)):=by unfold txStep;rw [hw]
 generalize txStep m t=R at hstep ⊢
 generalize comStep m f=B at *
 obtain ⟨an,b',m'⟩:=B
 simp only at HC hstep hbs
 have HSTEP:=kH hstep
 have HBS:=kH hbs
 have HR:=kH hr
 have HN:=kH hn
 have HRD:=kH hrd
 have HWR:=kH hwr
 have HCF:=kH hcfg
 have HL:=kH hl
 have HLO:=kH hlo
 clear hrd hwr hcfg hl hlo hS S0 hw hr hok hn hL hmem hbs hstep
 unfold ptr at *
 go_enter Tryz.func42,Tryz.ntmps42
 go_wp2_with fail
 refine HC.out.mono ?_
 rintro e w1 ⟨rfl,k',F',S1⟩
 unfold AnsD.val
 have SA:=S1.alloc (ansO an)
 have S2:=S1.f3
 obtain ⟨⟨a0,a1,a2,a3⟩,⟨g0,g1,g2,g3⟩⟩:=S2.ansBox
 have hlt1:=heap_lt S1.h3
 have hbx:=heap_new_at (w:=w1) (o:=ansO an) rfl
 have HSA:=kH SA
 cases HBS.out with
 | moved hk =>
   have HS2:=kH S2
   clear S1 SA S2 c21 hbx
   unfold moved ansO at *
   simp only at *
   go_wp2
   have hR:=HSTEP.out
   subst hR
   refine Sep.retA moved rfl HS2.out rfl rfl _ fun W' SF=>⟨rfl,q,a,k',.nilFunc,tv,F',L+1,rfl,rfl,HR.out,Nat.le_refl _,?_⟩
   exact Sep.txInN [_,_,_] SF
 | waits hk =>
   have HS2:=kH S2
   clear S1 SA S2 c21 hbx
   unfold waits ansO at *
   simp only at *
   go_wp2
   have hR:=HSTEP.out
   subst hR
   refine Sep.retA waits rfl HS2.out rfl rfl _ fun W' SF=>⟨rfl,q,a,k',.nilFunc,tv,F',L+1,rfl,rfl,HR.out,Nat.le_refl _,?_⟩
   exact Sep.txInN [_,_,_] SF
 | done s h1 h2 h3 h4 =>
   have HT:=kH (through_com (c:=b') (Sep.txInN [_,_,_,_] SA) HR.out HWR.out HCF.out HN.out HL.out HLO.out (doneA s) ⟨h1,h3⟩)
   clear S1 SA S2 c21 hbx h4
   have hR:=HSTEP.out
   subst hR
   unfold doneA ansO AnsD.val at *
   simp only at *
   go_wp2_with fail
   refine HT.out.mono ?_
   rintro e2 w2 ⟨rfl,a',lv',tv',S4⟩
   have S5:=(((Sep.txOutN [_,_,_,_,_,_] S4).perm (List.perm_append_comm_assoc [_,_] [_,_] _)).drop.drop).perm (List.perm_append_comm_assoc [_,_,_] [_] _)
   simp only [List.cons_append,List.nil_append] at S5
   obtain ⟨⟨d0,d1,d2,d3⟩,⟨i0,i1,i2,i3⟩⟩:=S5.ansBox
   have HS6:=kH S5
   clear S4 S5 a0 a1 a2 a3 g0 g1 g2 g3
   go_wp2
   refine Sep.ret moved rfl HS6.out rfl rfl fun W' SF=>⟨rfl,q,a',0,lv',tv',F',L+1,rfl,rfl,HR.out,Nat.le_refl _,?_⟩
   exact Sep.txInN [_,_,_] SF
 | @fail er _ he =>
   have HT:=kH (ends_tx (Sep.txInN [_,_,_,_] SA) HR.out HRD.out HN.out er true)
   clear S1 SA S2 c21 hbx
   have hR:=HSTEP.out
   subst hR
   unfold failA ansO AnsD.val at *
   simp only at *
   go_wp2_with fail
   refine HT.out.mono ?_
   rintro e2 w2 ⟨rfl,q',tv',hg,hm,hR2,S4⟩
   have S6:=(Sep.txOutN [_,_,_,_] S4).drop.drop.sw
   obtain ⟨⟨d0,d1,d2,d3⟩,⟨i0,i1,i2,i3⟩⟩:=S6.ansBox
   have HS6:=kH S6
   have HG:=kH hg
   have HM:=kH hm
   have HR2:=kH hR2
   clear S4 S6 a0 a1 a2 a3 g0 g1 g2 g3 hg hm hR2
   go_wp2
   refine Sep.ret (endT t er true).1 rfl HS6.out rfl rfl fun W' SF=>⟨rfl,q',a,k',.nilFunc,tv',F',L+1,HG.out,HM.out,HR2.out,Nat.le_refl _,?_⟩
   exact Sep.txInN [_] SF
end
end Go.Proofs.YtgfogfciobmmpaaGreatDoor
