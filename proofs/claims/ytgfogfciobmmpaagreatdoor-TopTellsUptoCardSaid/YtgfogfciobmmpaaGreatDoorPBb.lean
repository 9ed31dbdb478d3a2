/- A part of the proof of the law TopTells: Thr4. -/
import Derived.Test.YtgfogfciobmmpaaGreatDoorPAx
import Derived.Deep.RegionHeld3
set_option linter.unusedSimpArgs false
set_option linter.unusedVariables false
set_option maxRecDepth 100000
set_option maxHeartbeats 8000000
namespace Go.Proofs.YtgfogfciobmmpaaGreatDoor
section
open Go.RowKit
variable {w0:World} {X:List Nat} {Cs:List Comp} {w:World} {x p L:Nat} {wv tv:Value} {t:TxD} {q:LogP} {F:List Nat} {m:MemD}
theorem Sep.txStamp {lg:Nat} (h:Sep w0 X (cBlk x (txO lg wv tv t)::Cs) w) (s:Int):Sep w0 X (cBlk x (txO lg wv tv { t with stamp:=s })::Cs) (w.setCell ⟨x,20,none⟩ (.int .i64 s)):=by
 have h6:=h.set 20 (.int .i64 s)
 rw [show (txA lg wv tv t).setIfInBounds 20 (.int .i64 s)=txA lg wv tv { t with stamp:=s } by simp [txA]] at h6
 exact h6
theorem Sep.txWay {lg:Nat} (h:Sep w0 X (cBlk x (txO lg wv tv t)::Cs) w) (v:Value):Sep w0 X (cBlk x (txO lg v tv t)::Cs) (w.setCell ⟨x,21,none⟩ v):=by
 have h6:=h.set 21 v
 rw [show (txA lg wv tv t).setIfInBounds 21 v=txA lg v tv t by simp [txA]] at h6
 exact h6
theorem Sep.txPhase {lg:Nat} (h:Sep w0 X (cBlk x (txO lg wv tv t)::Cs) w) (s:Int):Sep w0 X (cBlk x (txO lg wv tv { t with phase:=s })::Cs) (w.setCell ⟨x,8,none⟩ (.int .i64 s)):=by
 have h6:=h.set 8 (.int .i64 s)
 rw [show (txA lg wv tv t).setIfInBounds 8 (.int .i64 s)=txA lg wv tv { t with phase:=s } by simp [txA]] at h6
 exact h6
theorem through_com {a:Nat} {c:ComD} (hS:Sep w0 X (txC x q (wayV (.com c) a) tv t Cs) w) (hr:q.R t.list) (hwr:t.wrote.length=8) (hcfg:1≤t.ring∧t.ring≤16) (hn:t.told.length≤1073741824) (hl:0 < t.list.length∧t.list.length≤24) (hok:∀ y∈t.list,0≤y.1∧y.1 < 1024) (an:AnsD) (hv:1≤an.value∧an.value≤1099511627776) :
   Calls Tryz.prog 58 #[ptr x,an.val] w (fun e w'=>e=.returned (⟨2,0,0,an.access⟩:AnsD).val∧∃ a' lv' tv',Sep w0 X (txC x q (wayV (.bak (newBak t.ring t.multi an.value t.list)) a') tv' (tellT { t with stamp:=an.value,way:=.bak (newBak t.ring t.multi an.value t.list),phase:=5 } { ev0 with kind:=4,stamp:=an.value,sig:=t.wrote }) (cBlk a' (bakO a' lv' (newBak t.ring t.multi an.value t.list))::cWr lv' t.list::Cs)) w'):=by
 obtain ⟨ak,ae,av,aac⟩:=an
 obtain ⟨ring,writes,stamps,multi,list,wrote,phase,start,seen,reads,cell,stamp,way,told⟩:=t
 simp only at hv hr hwr hcfg hn hl hok ⊢
 obtain ⟨b0,b1,b2,b3,b4,b5,b6,b7,rfl⟩:=eight hwr
 have S0:=((Sep.txStamp hS av).new (ansO ⟨ak,ae,av,aac⟩)).new ans0
 rw [show ((w.setCell ⟨x,20,none⟩ (.int .i64 av)).alloc (ansO ⟨ak,ae,av,aac⟩)).heap.size=w.heap.size+1 by simp,show (w.setCell ⟨x,20,none⟩ (.int .i64 av)).heap.size=w.heap.size by simp] at S0
 have S1:=Sep.txInN (t:=⟨ring,writes,stamps,multi,list,[b0,b1,b2,b3,b4,b5,b6,b7],phase,start,seen,reads,cell,av,way,told⟩) [_,_] S0
 have c21:=hS.cell 21
 have k20:=hS.cell 20
 have f20:=hS.froz 20
 simp only [txA,wayV,gA,gZ,gS] at c21 k20
 have hlt:=heap_lt hS.h0
 have ta:=is_com_beg a
 have ta2:=is_com_fet a
 have ta3:=is_com_com a
 have HR:=kH hr
 have HS1:=kH S1
 have HW:=kH (fun r=>Writes_log (Sep.logFront (S1.drewN r)) hl.2)
 have HL:=kH hl
 have HOK:=kH hok
 have HV:=kH hv
 have HC:=kH hcfg
 have HWR:=kH hwr
 have HN:=kH hn
 unfold AnsD.val
 have hk:=fun j=>S1.cell j
 have k0:=hk 0
 have k1:=hk 1
 have k2:=hk 2
 have k3:=hk 3
 have k4:=hk 4
 have k5:=hk 5
 have k6:=hk 6
 have k7:=hk 7
 have l20:=hk 20
 simp only [txA,gA,gZ,gS] at k0 k1 k2 k3 k4 k5 k6 k7 l20
 clear hS S0 S1 hl hok hv hcfg hwr hn hk hr
 unfold ptr ansO ans0 at *
 go_enter Tryz.func58,Tryz.ntmps58
 go_wp2_with fail
 generalize hW1:((w.setCell ⟨x,20,none⟩ (.int .i64 av)).alloc (.cells #[.int .i64 ak,.int .i64 ae,.int .i64 av,.bool aac] 35 (0,0))).alloc (.cells #[.int .i64 0,.int .i64 0,.int .i64 0,.bool false] 35 (0,0))=W1 at *
 have HW1:=kH hW1
 clear hW1 c21 k20 f20 ta ta2 ta3
 go_region_held3 (fun w'=>w'.cell? ⟨x,0,none⟩=some (.int .i64 0)∧w'.cell? ⟨x,1,none⟩=some (.int .i64 ring)∧w'.cell? ⟨x,2,none⟩=some (.int .i64 writes)∧w'.cell? ⟨x,3,none⟩=some (.int .i64 stamps)∧w'.cell? ⟨x,4,none⟩=some (.bool multi)∧w'.cell? ⟨x,5,none⟩=some (.int .i64 0)∧w'.cell? ⟨x,6,none⟩=some (.slice none 0 0)∧w'.cell? ⟨x,7,none⟩=some (.pointer (some ⟨q.g,0,none⟩))∧w'.cell? ⟨x,20,none⟩=some (.int .i64 av)) (first | go_keep | simp [*,cell_off]) (first | (go_at_call 90;refine (HW.out _).mono ?_;rintro e2 w2 ⟨g,rfl,S2⟩;have S3:=Sep.turn [_,_,_,_,_] [_,_] S2;have hkk:=fun j=>S3.cell j;have i0:=hkk 0;have i1:=hkk 1;have i2:=hkk 2;have i3:=hkk 3;have i4:=hkk 4;have i5:=hkk 5;have i6:=hkk 6;have i7:=hkk 7;have i20:=hkk 20;simp only [txA,gA,gZ,gS] at i0 i1 i2 i3 i4 i5 i6 i7 i20;unfold ptr at i7;have HB:=kH (New_bak list _ S2 0 ring writes stamps multi 0 none 0 0 av HC.out HV.out HL.out HOK.out);unfold cfgV at HB;clear S2 S3 hkk) | (go_at_call 95;refine HB.out.mono ?_;rintro e3 w3 ⟨a',lv',rfl,S4⟩;have S5:=Sep.turn [_,_,_,_,_,_,_] [_,_] S4;have hkk:=fun j=>S5.cell j;have g21:=S5.froz 21;have i21:=hkk 21;have i8:=hkk 8;have g8:=S5.froz 8;have i0:=hkk 0;have i1:=hkk 1;have i2:=hkk 2;have i3:=hkk 3;have i4:=hkk 4;have i5:=hkk 5;have i6:=hkk 6;have i7:=hkk 7;have i20:=hkk 20;simp only [txA,gA,gZ,gS] at i0 i1 i2 i3 i4 i5 i6 i7 i8 i20 i21;unfold ptr at i7;have HS4:=kH S5;clear S4 S5 hkk))
 have S6:=Sep.turn [_,_,_,_] [_,_] (Sep.turn [_,_,_,_,_] [_,_,_,_] HS4.out)
 have S7:=(S6.txWay (.iface 172 (ptr a'))).txPhase 5
 have S7:Sep w0 X (txC x q (wayV (.bak (newBak ring multi av list)) a') tv ⟨ring,writes,stamps,multi,list,[b0,b1,b2,b3,b4,b5,b6,b7],5,start,seen,reads,cell,av,.bak (newBak ring multi av list),told⟩ (cBlk a' (bakO a' lv' (newBak ring multi av list))::cWr lv' list::_::_::_::Cs)) _:=S7
 have HSG:=kH (fun r=>Sig_log (Sep.logFront (S7.drewN r)) rfl)
 unfold sigV sigA at HSG
 simp only [List.getD_cons_zero,List.getD_cons_succ] at HSG
 have HS7:=kH S7
 have k7:=S7.cell 7
 have k20:=S7.cell 20
 simp only [txA,gA,gZ,gS] at k7 k20
 clear S6 S7 k0 k1 k2 k3 k4 k5 k6 l20 HW
 unfold ptr at *
 go_wp2_with fail
 generalize hW2:(w3.setCell ⟨x,21,none⟩ (.iface 172 (.pointer (some ⟨a',0,none⟩)))).setCell ⟨x,8,none⟩ (.int .i64 5)=W2 at *
 clear hW2
 go_region_held3 (fun w'=>w'.cell? ⟨x,7,none⟩=some (.pointer (some ⟨q.g,0,none⟩))∧w'.cell? ⟨x,20,none⟩=some (.int .i64 av)) (first | go_keep | simp [*,cell_off]) (first | (go_at_call 96;refine (HSG.out _).mono ?_;rintro e4 w4 ⟨rfl,S8⟩;have S9:=Sep.logBack S8;have i7:=S9.cell 7;have i20:=S9.cell 20;simp only [txA,gA,gZ,gS] at i7 i20;unfold ptr at i7;have HT:=kH (tell_tx S9 { ev0 with kind:=4,stamp:=av,sig:=[b0,b1,b2,b3,b4,b5,b6,b7] } HN.out);unfold evV evL bareE ev0 ptr at HT;simp only [List.getD_cons_zero,List.getD_cons_succ] at HT;clear S8 S9) | (go_at_call 85;refine HT.out.mono ?_;rintro e5 w5 ⟨rfl,tv',SA⟩;have i7:=SA.cell 7;have i20:=SA.cell 20;simp only [txA,gA,gZ,gS] at i7 i20;unfold ptr at i7;have HSA:=kH SA;clear SA))
 have SA:Sep w0 X (txC x q (wayV (.bak (newBak ring multi av list)) a') tv' (tellT ⟨ring,writes,stamps,multi,list,[b0,b1,b2,b3,b4,b5,b6,b7],5,start,seen,reads,cell,av,.bak (newBak ring multi av list),told⟩ { ev0 with kind:=4,stamp:=av,sig:=[b0,b1,b2,b3,b4,b5,b6,b7] }) (cBlk a' (bakO a' lv' (newBak ring multi av list))::cWr lv' list::_::_::_::Cs)) w5:=HSA.out
 have S9:=(Sep.txOutN [_,_,_,_,_] SA).pull [_,_,_]
 clear SA
 obtain ⟨⟨a0,a1,a2,a3⟩,⟨g0,g1,g2,g3⟩⟩:=S9.ansBox
 have hbx:=fun j=>(S9.pull [_,_,_,_]).cell j
 have d0:=hbx 0
 have d1:=hbx 1
 have d2:=hbx 2
 have d3:=hbx 3
 simp only [gA,gZ,gS] at d0 d1 d2 d3
 have HS9:=kH S9
 clear S9 hbx
 go_wp2
 refine Sep.ret ⟨2,0,0,aac⟩ rfl HS9.out rfl rfl fun W' SF=>⟨rfl,a',lv',tv',?_⟩
 exact Sep.txInN [_,_] ((((SF.pull [_,_,_]).drop).pull [_,_]).drop)
end
end Go.Proofs.YtgfogfciobmmpaaGreatDoor
