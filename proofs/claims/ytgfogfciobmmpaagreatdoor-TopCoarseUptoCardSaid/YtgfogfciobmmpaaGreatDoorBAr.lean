/- A part of the proof of a law of carouseltop: Thr2. -/
import Derived.Test.YtgfogfciobmmpaaGreatDoorBAq
set_option linter.unusedSimpArgs false
set_option linter.unusedVariables false
set_option maxRecDepth 100000
set_option maxHeartbeats 8000000
namespace Go.Proofs.YtgfogfciobmmpaaGreatDoor
open Go.RowKit
section
variable {w0:World}{X:List Nat}{Cs:List aw}{w:World}{x p L:Nat}{wv tv:Value}{t:bZ}{q:dX}{F:List Nat}{m:au}
theorem uL{a k:Nat}{f:lL}(hS:ah w0 X (eK x q (ez (.fet f) a) tv t (ag a (jM k f)::ag k (fU f.chk)::Cs)) w)(hb:f.chk.state=4)(hn:t.told.length<=1073741824)(an:aM) :
  Calls Tryz.prog 58 #[ptr x,an.val] w (fun e w'=>e=.returned an.val/\∃ tv',ah w0 X (eK x q .nilIface tv' (bO {t with start:=f.chk.start,seen:=f.chk.seen,phase:=2,way:=.no} {fd with kind:=2,cell:=t.cell,value:=an.value,start:=f.chk.start,seen:=f.chk.seen}) Cs) w'):=by
 have S0:=((((ah.txOutN [_,_] hS).new (aS an)).new aB).perm (List.perm_append_comm_assoc [_,_] [_,_] _))
 simp only[List.cons_append,List.nil_append]at S0
 rw[show(w.alloc (aS an)).heap.size=w.heap.size+1 by simp]at S0
 have HST:=kH (BI S0 hb)
 have c21:=hS.cell 21
 simp only[fu,ez,gA,gZ,gS]at c21
 have hlt:=af hS.h0
 have ta:=yj a
 have ta2:=yh a
 unfold aM.val
 clear hS S0 hb
 generalize f.chk.start=bst at *
 generalize f.chk.seen=bsn at *
 have HN:=kH hn
 unfold aS at HST
 unfold ptr at *
 go_enter Tryz.func58,Tryz.ntmps58
 go_wp2_with fail
 refine HST.out.mono ?_
 rintro e1 w1 ⟨rfl,S1⟩
 have S2:=ah.txInN [_,_,_,_] S1
 have k19:=S2.cell 19
 have bx2:=(ah.txOutN [_,_,_,_] S2).f3.cell 2
 have f9:=S2.froz 9
 have f10:=S2.froz 10
 have f8:=S2.froz 8
 have f21:=S2.froz 21
 have k9:=S2.cell 9
 have k10:=S2.cell 10
 have k8:=S2.cell 8
 have k21:=S2.cell 21
 simp only[fu,ez,gA,gZ,gS]at k8 k9 k10 k19 k21 bx2
 have hlt1:=af S2.h0
 have S3:=S2.txLive bst bsn
 have HT:=kH (iK S3.drew {fd with kind:=2,cell:=t.cell,value:=an.value,start:=bst,seen:=bsn} HN.out)
 unfold wa fO du fd bQ at HT
 simp only[List.getD_cons_zero,List.getD_cons_succ]at HT
 generalize t.start=st at *
 generalize t.seen=sn at *
 generalize t.phase=ph at *
 clear S1 S2 S3 c21
 unfold ptr at *
 go_wp2_with fail
 refine wp_region_still_tail 16 (by kernel_rfl) (by kernel_rfl) ?_
 change wpStill _ _ (World.drew _) (fun a'=>wpList _ _ _ _ a' (World.drew _)) _ _
 simp only[List.take_succ_cons,List.take_zero,List.drop_succ_cons,List.drop_zero]
 repeat still_step
 refine wpStill_nil ?_
 go_wp2_with fail
 refine HT.out.mono ?_
 rintro e2 w2 ⟨rfl,tv',S4⟩
 have S5:=(ah.txOutN [_,_,_,_] (show ah w0 X (eK x q .nilIface tv' (bO {t with start:=bst,seen:=bsn,phase:=2,way:=.no} {fd with kind:=2,cell:=t.cell,value:=an.value,start:=bst,seen:=bsn}) ([_,_,_,_]++Cs)) w2 from S4)).drop.drop
 obtain⟨⟨a0,a1,a2,a3⟩,⟨g0,g1,g2,g3⟩⟩:=S5.ansBox
 have b0:=S5.cell1 0
 have b1:=S5.cell1 1
 have b2:=S5.cell1 2
 have b3:=S5.cell1 3
 simp only[gA,gZ,gS]at b0 b1 b2 b3
 have HS5:=kH S5
 clear S4 S5 k8 k9 k10 k19 k21 bx2 f8 f9 f10 f21
 go_wp2
 refine ah.ret an rfl HS5.out rfl rfl fun W' SF=>⟨rfl,tv',SF.drop⟩
end
end Go.Proofs.YtgfogfciobmmpaaGreatDoor
