/- A part of the proof of the law TopTells: Thr. -/
import Derived.Test.YtgfogfciobmmpaaGreatDoorPAw
import Derived.StillTailTactics
import Derived.Laws.EntriesVeiled
set_option linter.unusedSimpArgs false
set_option linter.unusedVariables false
set_option maxRecDepth 100000
set_option maxHeartbeats 8000000
namespace Go.Proofs.YtgfogfciobmmpaaGreatDoor
section
open Go.RowKit
variable {w0:World} {X:List Nat} {Cs:List Comp} {w:World} {x p L:Nat} {wv tv:Value} {t:TxD} {q:LogP} {F:List Nat} {m:MemD}
theorem txA_live (lg:Nat) (wv tv:Value) (t:TxD) (s n:Int):((((txA lg wv tv t).setIfInBounds 9 (.int .i64 s)).setIfInBounds 10 (.int .i64 n)).setIfInBounds 8 (.int .i64 2)).setIfInBounds 21 .nilIface=txA lg .nilIface tv { t with start:=s,seen:=n,phase:=2,way:=.no }:=by
 simp [txA]
theorem Sep.txLive {lg:Nat} (h:Sep w0 X (cBlk x (txO lg wv tv t)::Cs) w) (s n:Int):Sep w0 X (cBlk x (txO lg .nilIface tv { t with start:=s,seen:=n,phase:=2,way:=.no })::Cs) ((((w.setCell ⟨x,9,none⟩ (.int .i64 s)).setCell ⟨x,10,none⟩ (.int .i64 n)).setCell ⟨x,8,none⟩ (.int .i64 2)).setCell ⟨x,21,none⟩ .nilIface):=by
 have h6:=(((h.set 9 (.int .i64 s)).set 10 (.int .i64 n)).set 8 (.int .i64 2)).set 21 .nilIface
 rw [txA_live] at h6
 exact h6
theorem Sep.txInN (As:List Comp) (h:Sep w0 X (As++txC x q wv tv t Cs) w):Sep w0 X (txC x q wv tv t (As++Cs)) w:=by
 unfold txC logC tabC at *
 have h1:Sep w0 X (As++([cBlk x (txO q.g wv tv t),cEv tv (bare t.told),cBlk q.g (logO q.t t.wrote),cBlk q.t (tabO q.most q.sb q.sl.length q.lv q.sh),cBlk q.sb (slotO q.sl),cWr q.lv t.list]++Cs)) w:=h
 exact h1.perm (List.perm_append_comm_assoc As _ Cs)
theorem Sep.txOutN (As:List Comp) (h:Sep w0 X (txC x q wv tv t (As++Cs)) w):Sep w0 X (As++txC x q wv tv t Cs) w:=by
 unfold txC logC tabC at *
 have h1:Sep w0 X ([cBlk x (txO q.g wv tv t),cEv tv (bare t.told),cBlk q.g (logO q.t t.wrote),cBlk q.t (tabO q.most q.sb q.sl.length q.lv q.sh),cBlk q.sb (slotO q.sl),cWr q.lv t.list]++(As++Cs)) w:=h
 exact h1.perm (List.perm_append_comm_assoc _ As Cs)
theorem through_beg {a:Nat} {b:BegD} (hS:Sep w0 X (txC x q (wayV (.beg b) a) tv t (cBlk a (begO b)::Cs)) w) (hb:b.state=2) (hn:t.told.length≤1073741824) (an:AnsD) :
   Calls Tryz.prog 58 #[ptr x,an.val] w (fun e w'=>e=.returned an.val∧∃ tv',Sep w0 X (txC x q .nilIface tv' (tellT { t with start:=b.at_,seen:=b.seen,phase:=2,way:=.no } { ev0 with kind:=1,start:=b.at_,seen:=b.seen }) Cs) w'):=by
 obtain ⟨bsz,bstt,bsn,bst⟩:=b
 have S0:=(((Sep.txOutN [_] hS).new (ansO an)).new ans0).f2
 rw [show (w.alloc (ansO an)).heap.size=w.heap.size+1 by simp] at S0
 have HST:=kH (Start_beg S0 hb)
 have c21:=hS.cell 21
 simp only [txA,wayV,gA,gZ,gS] at c21
 have hlt:=heap_lt hS.h0
 have ta:=is_beg_beg a
 unfold AnsD.val
 clear hS S0 hb
 simp only at HST ⊢
 have HN:=kH hn
 unfold ansO at HST
 unfold ptr at *
 go_enter Tryz.func58,Tryz.ntmps58
 go_wp2_with fail
 refine HST.out.mono ?_
 rintro e1 w1 ⟨rfl,S1⟩
 have S2:=Sep.txInN [_,_,_] S1
 have f9:=S2.froz 9
 have f10:=S2.froz 10
 have f8:=S2.froz 8
 have f21:=S2.froz 21
 have k9:=S2.cell 9
 have k10:=S2.cell 10
 have k8:=S2.cell 8
 have k21:=S2.cell 21
 simp only [txA,wayV,gA,gZ,gS] at k8 k9 k10 k21
 have hlt1:=heap_lt S2.h0
 have S3:=S2.txLive bst bsn
 have HT:=kH (tell_tx S3.drew { ev0 with kind:=1,start:=bst,seen:=bsn } HN.out)
 unfold evV evL bareE ev0 zero8 at HT
 simp only [List.getD_cons_zero,List.getD_cons_succ] at HT
 generalize t.start=st at *
 generalize t.seen=sn at *
 generalize t.phase=ph at *
 clear S1 S2 S3 c21
 unfold ptr at *
 go_wp2_with fail
 refine wp_region_still_tail 10 (by kernel_rfl) (by kernel_rfl) ?_
 change wpStill _ _ (World.drew _) (fun a'=>wpList _ _ _ _ a' (World.drew _)) _ _
 simp only [List.take_succ_cons,List.take_zero,List.drop_succ_cons,List.drop_zero]
 repeat still_step
 refine wpStill_nil ?_
 go_wp2_with fail
 refine HT.out.mono ?_
 rintro e2 w2 ⟨rfl,tv',S4⟩
 have S5:=(Sep.txOutN [_,_,_] (show Sep w0 X (txC x q .nilIface tv' (tellT { t with start:=bst,seen:=bsn,phase:=2,way:=.no } { ev0 with kind:=1,start:=bst,seen:=bsn }) ([_,_,_]++Cs)) w2 from S4)).drop
 obtain ⟨⟨a0,a1,a2,a3⟩,⟨g0,g1,g2,g3⟩⟩:=S5.ansBox
 have b0:=S5.cell1 0
 have b1:=S5.cell1 1
 have b2:=S5.cell1 2
 have b3:=S5.cell1 3
 simp only [gA,gZ,gS] at b0 b1 b2 b3
 have HS5:=kH S5
 clear S4 S5 k8 k9 k10 k21 f8 f9 f10 f21
 go_wp2
 refine Sep.ret an rfl HS5.out rfl rfl fun W' SF=>⟨rfl,tv',SF.drop⟩
end
end Go.Proofs.YtgfogfciobmmpaaGreatDoor
