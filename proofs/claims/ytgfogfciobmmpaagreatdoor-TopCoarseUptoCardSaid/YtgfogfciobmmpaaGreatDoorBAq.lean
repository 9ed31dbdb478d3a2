/- A part of the proof of a law of carouseltop: Thr. -/
import Derived.Test.YtgfogfciobmmpaaGreatDoorBAn
import Derived.Test.YtgfogfciobmmpaaGreatDoorBAp
import Derived.StillTailTactics
import Derived.Laws.EntriesVeiled
set_option linter.unusedSimpArgs false
set_option linter.unusedVariables false
set_option maxRecDepth 100000
set_option maxHeartbeats 8000000
namespace Go.Proofs.YtgfogfciobmmpaaGreatDoor
open Go.RowKit
section
variable {w0:World}{X:List Nat}{Cs:List aw}{w:World}{x p L:Nat}{wv tv:Value}{t:bZ}{q:dX}{F:List Nat}{m:au}
theorem Cd(lg:Nat)(wv tv:Value)(t:bZ)(s n:Int):((((fu lg wv tv t).setIfInBounds 9 (.int .i64 s)).setIfInBounds 10 (.int .i64 n)).setIfInBounds 8 (.int .i64 2)).setIfInBounds 21 .nilIface=fu lg .nilIface tv {t with start:=s,seen:=n,phase:=2,way:=.no}:=by
 simp[fu]
theorem ah.txLive{lg:Nat}(h:ah w0 X (ag x (lM lg wv tv t)::Cs) w)(s n:Int):ah w0 X (ag x (lM lg .nilIface tv {t with start:=s,seen:=n,phase:=2,way:=.no})::Cs) ((((w.setCell ⟨x,9,none⟩ (.int .i64 s)).setCell ⟨x,10,none⟩ (.int .i64 n)).setCell ⟨x,8,none⟩ (.int .i64 2)).setCell ⟨x,21,none⟩ .nilIface):=by
 have h6:=(((h.set 9 (.int .i64 s)).set 10 (.int .i64 n)).set 8 (.int .i64 2)).set 21 .nilIface
 rw[Cd]at h6
 exact h6
theorem ah.txInN(As:List aw)(h:ah w0 X (As++eK x q wv tv t Cs) w):ah w0 X (eK x q wv tv t (As++Cs)) w:=by
 unfold eK eT ei at *
 have h1:ah w0 X (As++([ag x (lM q.g wv tv t),bW tv (bb t.told),ag q.g (tO q.t t.wrote),ag q.t (iV q.most q.sb q.sl.length q.lv q.sh),ag q.sb (gD q.sl),gy q.lv t.list]++Cs)) w:=h
 exact h1.perm (List.perm_append_comm_assoc As _ Cs)
theorem ah.txOutN(As:List aw)(h:ah w0 X (eK x q wv tv t (As++Cs)) w):ah w0 X (As++eK x q wv tv t Cs) w:=by
 unfold eK eT ei at *
 have h1:ah w0 X ([ag x (lM q.g wv tv t),bW tv (bb t.told),ag q.g (tO q.t t.wrote),ag q.t (iV q.most q.sb q.sl.length q.lv q.sh),ag q.sb (gD q.sl),gy q.lv t.list]++(As++Cs)) w:=h
 exact h1.perm (List.perm_append_comm_assoc _ As Cs)
theorem uN{a:Nat}{b:nT}(hS:ah w0 X (eK x q (ez (.beg b) a) tv t (ag a (uh b)::Cs)) w)(hb:b.state=2)(hn:t.told.length<=1073741824)(an:aM) :
  Calls Tryz.prog 58 #[ptr x,an.val] w (fun e w'=>e=.returned an.val/\∃ tv',ah w0 X (eK x q .nilIface tv' (bO {t with start:=b.at_,seen:=b.seen,phase:=2,way:=.no} {fd with kind:=1,start:=b.at_,seen:=b.seen}) Cs) w'):=by
 obtain⟨bsz,bstt,bsn,bst⟩:=b
 have S0:=(((ah.txOutN [_] hS).new (aS an)).new aB).f2
 rw[show(w.alloc (aS an)).heap.size=w.heap.size+1 by simp]at S0
 have HST:=kH (BJ S0 hb)
 have c21:=hS.cell 21
 simp only[fu,ez,gA,gZ,gS]at c21
 have hlt:=af hS.h0
 have ta:=yn a
 unfold aM.val
 clear hS S0 hb
 simp only at HST ⊢
 have HN:=kH hn
 unfold aS at HST
 unfold ptr at *
 go_enter Tryz.func58,Tryz.ntmps58
 go_wp2_with fail
 refine HST.out.mono ?_
 rintro e1 w1 ⟨rfl,S1⟩
 have S2:=ah.txInN [_,_,_] S1
 have f9:=S2.froz 9
 have f10:=S2.froz 10
 have f8:=S2.froz 8
 have f21:=S2.froz 21
 have k9:=S2.cell 9
 have k10:=S2.cell 10
 have k8:=S2.cell 8
 have k21:=S2.cell 21
 simp only[fu,ez,gA,gZ,gS]at k8 k9 k10 k21
 have hlt1:=af S2.h0
 have S3:=S2.txLive bst bsn
 have HT:=kH (iK S3.drew {fd with kind:=1,start:=bst,seen:=bsn} HN.out)
 unfold wa fO du fd bQ at HT
 simp only[List.getD_cons_zero,List.getD_cons_succ]at HT
 generalize t.start=st at *
 generalize t.seen=sn at *
 generalize t.phase=ph at *
 clear S1 S2 S3 c21
 unfold ptr at *
 go_wp2_with fail
 refine wp_region_still_tail 10 (by kernel_rfl) (by kernel_rfl) ?_
 change wpStill _ _ (World.drew _) (fun a'=>wpList _ _ _ _ a' (World.drew _)) _ _
 simp only[List.take_succ_cons,List.take_zero,List.drop_succ_cons,List.drop_zero]
 repeat still_step
 refine wpStill_nil ?_
 go_wp2_with fail
 refine HT.out.mono ?_
 rintro e2 w2 ⟨rfl,tv',S4⟩
 have S5:=(ah.txOutN [_,_,_] (show ah w0 X (eK x q .nilIface tv' (bO {t with start:=bst,seen:=bsn,phase:=2,way:=.no} {fd with kind:=1,start:=bst,seen:=bsn}) ([_,_,_]++Cs)) w2 from S4)).drop
 obtain⟨⟨a0,a1,a2,a3⟩,⟨g0,g1,g2,g3⟩⟩:=S5.ansBox
 have b0:=S5.cell1 0
 have b1:=S5.cell1 1
 have b2:=S5.cell1 2
 have b3:=S5.cell1 3
 simp only[gA,gZ,gS]at b0 b1 b2 b3
 have HS5:=kH S5
 clear S4 S5 k8 k9 k10 k21 f8 f9 f10 f21
 go_wp2
 refine ah.ret an rfl HS5.out rfl rfl fun W' SF=>⟨rfl,tv',SF.drop⟩
end
end Go.Proofs.YtgfogfciobmmpaaGreatDoor
