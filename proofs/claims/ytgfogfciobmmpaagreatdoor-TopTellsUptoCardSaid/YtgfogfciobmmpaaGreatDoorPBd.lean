/- A part of the proof of the law TopTells: Txc Do Do2 Do3 Do4 Do5. -/
import Derived.Test.YtgfogfciobmmpaaGreatDoorPBa
import Derived.Test.YtgfogfciobmmpaaGreatDoorPBc
import Derived.Deep.RegionHeld3
set_option linter.unusedSimpArgs false
set_option linter.unusedVariables false
set_option maxRecDepth 100000
set_option maxHeartbeats 8000000
namespace Go.Proofs.YtgfogfciobmmpaaGreatDoor
section
open Go.RowKit
variable {w0:World} {X:List Nat} {Cs:List Comp} {w:World} {x p L:Nat} {wv tv:Value} {t:TxD} {q:LogP} {F:List Nat} {m:MemD}
def TxP (x:Nat) (t:TxD) (Ds:List Comp):Prop:=∃ q a k lv tv,(q.most:Int)=t.writes∧q.R t.list∧Ds=txC x q (wayV t.way a) tv t (wayC a k lv t.way [])
def cTx (x:Nat) (t:TxD) (F:List Nat):Comp:=cPack (TxP x t) F
theorem txC_app (x:Nat) (q:LogP) (wv tv:Value) (t:TxD) (As Cs:List Comp):txC x q wv tv t As++Cs=txC x q wv tv t (As++Cs):=rfl
theorem wayC_app (a k:Nat) (lv:Value) (y:WayD) (Cs:List Comp):wayC a k lv y []++Cs=wayC a k lv y Cs:=by cases y <;> rfl
theorem Sep.txOpen (h:Sep w0 X (cTx x t F::Cs) w):∃ q a k lv tv,(q.most:Int)=t.writes∧q.R t.list∧Sep w0 X (txC x q (wayV t.way a) tv t (wayC a k lv t.way Cs)) w:=by
 obtain ⟨Ds,⟨q,a,k,lv,tv,h1,h2,rfl⟩,-,hS⟩:=h.unpack
 rw [txC_app,wayC_app] at hS
 exact ⟨q,a,k,lv,tv,h1,h2,hS⟩
theorem Sep.txClose {a k:Nat} {lv:Value} (h1:(q.most:Int)=t.writes) (h2:q.R t.list) (h:Sep w0 X (txC x q (wayV t.way a) tv t (wayC a k lv t.way Cs)) w):∃ F,Sep w0 X (cTx x t F::Cs) w:=by
 rw [← wayC_app,← txC_app] at h
 exact ⟨_,h.pack ⟨q,a,k,lv,tv,h1,h2,rfl⟩⟩
def TxPost (w0:World) (X:List Nat) (Cs:List Comp) (x p L:Nat) (r:AnsD×TxD×MemD) (e:Ending) (w':World):Prop :=
 e=.returned r.1.val∧∃ F' F2 L',L'≤L+1∧Sep w0 X (cTx x r.2.1 F'::cMem p r.2.2 L' F2::Cs) w'
theorem goOn_writes (t:TxD) (a:AnsD) (f:TxD→AnsD×TxD) (h:(f t).2.writes=t.writes):(goOnT t a f).2.writes=t.writes:=by
 unfold goOnT endT
 repeat' split
 all_goals first | rfl | exact h
theorem txStep_writes (m:MemD) (t:TxD):(txStep m t).2.1.writes=t.writes:=by
 unfold txStep
 split
 · rfl
 all_goals exact goOn_writes { t with way:=_ } _ _ rfl
theorem stepTx_post {r:AnsD×TxD×MemD} (hm:(q.most:Int)=r.2.1.writes) {e:Ending} {w':World} (h:StepTx w0 X Cs x p L q r e w'):TxPost w0 X Cs x p L r e w':=by
 obtain ⟨h1,q',a,k,lv,tv,F',L',-,hq,hR,hL,hS⟩:=h
 obtain ⟨F2,hS⟩:=Sep.txClose (by rw [hq];exact hm) hR hS
 exact ⟨h1,F2,F',L',hL,hS⟩
theorem Step_tx {F2:List Nat} {c:CfgD} (hc:CfgOk c) (hS:Sep w0 X (cTx x t F::cMem p m L F2::Cs) w) (hok:TxOk c t m) (th:Int) (hn:t.told.length≤1073741824) (hL:L≤1073741824) :
   Calls Tryz.prog 42 #[ptr x,ptr p,.int .i64 th] w (TxPost w0 X Cs x p L (txStep m t)):=by
 obtain ⟨q,a,k,lv,tv,hm,hr,hS⟩:=hS.txOpen
 have hm':(q.most:Int)=(txStep m t).2.1.writes:=by rw [txStep_writes];exact hm
 have hrr:t.ring=m.ring:=hok.cfg.1.trans hok.mring.symm
 have hw:=hok.way
 unfold WayOk at hw
 refine Calls.mono ?_ (fun e w' h=>stepTx_post hm' h)
 split at hw
 · rename_i e
   rw [e] at hS
   exact Step_tx_no hS e hr th
 · rename_i b e
   rw [e] at hS
   rw [hrr] at hw
   exact Step_tx_beg hS e hr th hw.2 hn hL
 · rename_i f e
   rw [e] at hS
   rw [hrr] at hw
   exact Step_tx_fet hS e hok.reads.1 hr th hw.2.1 hn hL
 · rename_i f e
   rw [e] at hS
   rw [hrr] at hw
   have hrg:=hc.ring
   have hcf:=hok.cfg.1
   have hlen:=hok.len
   have hwr:=hc.writes
   have hcw:=hok.cfg.2.1
   have hmem:MemOk m:=((Sep.txOutN [_,_,_] hS).h2:RepM _ p m L F2).ok
   have hcl:=hmem.cells
   refine Step_tx_com hS e hok.reads.1 hok.wrote.1 hr (by omega) ⟨List.length_pos_iff.2 hw.2.2.2.2.2.2.2,by omega⟩ (fun y hy=>?_) th hw.2.1 hn hL
   have h:=hok.list y hy
   omega
 · rename_i b e
   rw [e] at hS
   rw [hrr] at hw
   exact Step_tx_bak hS e hr th hw.2.1 hn hL
end
section
open Go.RowKit
variable {w0:World} {X:List Nat} {Cs:List Comp} {w:World} {x p L:Nat} {wv tv:Value} {t:TxD} {q:LogP} {F:List Nat} {m:MemD} {y:WantD}
def wantO (y:WantD):Obj:=.cells #[.int .i64 y.kind,.int .i64 y.cell,.int .i64 y.value,.int .i64 y.code] 109 (0,0)
theorem txPost_ans {r:AnsD×TxD×MemD} {an wn:Comp} {e:Ending} {w':World} (h:TxPost w0 X (an::wn::Cs) x p L r e w') :
   e=.returned r.1.val∧∃ F' F2 L',L'≤L+1∧Sep w0 X (an::cTx x r.2.1 F'::cMem p r.2.2 L' F2::Cs) w':=by
 obtain ⟨h1,F',F2,L',hL,hS⟩:=h
 exact ⟨h1,F',F2,L',hL,((hS.pull [_,_,_]).drop).pull [_,_]⟩
theorem do_ahead (hS:Sep w0 X (txC x q .nilIface tv t (cMem p m L F::Cs)) w) (hf:fitsT m t y=true) :
   Calls Tryz.prog 83 #[ptr x,ptr p,wantV y] ((w.alloc (wantO y)).alloc ans0) (fun e w'=>e=.returned (.bool true)∧Sep w0 X (txC x q .nilIface tv t (cMem p m L F::cBlk (w.heap.size+1) ans0::cBlk w.heap.size (wantO y)::Cs)) w'):=by
 have S1:=(hS.new (wantO y)).new ans0
 rw [show (w.alloc (wantO y)).heap.size=w.heap.size+1 by simp] at S1
 have S2:=((S1.pull [_,_,_,_,_,_,_,_]).pull [_,_,_])
 refine (fits_tx S2 y).mono ?_
 rintro e w1 ⟨rfl,S3⟩
 rw [hf]
 refine ⟨rfl,?_⟩
 have S4:Sep w0 X ([_,_,_,_]++([_,_,_,_,_]++Cs)) w1:=S3
 exact (S4.turn).pull [_,_,_,_,_]
theorem Do_abort (hS:Sep w0 X (txC x q .nilIface tv t (cMem p m L F::Cs)) w) (hw:t.way=.no) (hf:fitsT m t y=true) (hk:y.kind=5) (hm:(q.most:Int)=t.writes) (hr:q.R t.list) (hrd:t.reads.length=8) (hn:t.told.length≤1073741824) (th:Int) :
   Calls Tryz.prog 56 #[ptr x,ptr p,.int .i64 th,wantV y] w (TxPost w0 X Cs x p L (txDo m t y)):=by
 obtain ⟨kind,cell,value,code⟩:=y
 simp only at hk
 subst hk
 have hdo:txDo m t ⟨5,cell,value,code⟩=((endT t code false).1,(endT t code false).2,m):=by
   unfold txDo
   rw [if_neg (by rw [hf];simp)]
   simp
 rw [hdo]
 have HF:=kH (do_ahead hS hf)
 have hlt:=heap_lt hS.h0
 have HR:=kH hr
 have HRD:=kH hrd
 have HN:=kH hn
 have HM:=kH hm
 clear hS hf hdo hr hrd hn hm hw
 unfold wantV wantO ans0 ptr at *
 go_enter Tryz.func56,Tryz.ntmps56
 go_wp2_with fail
 refine HF.out.mono ?_
 rintro e w1 ⟨rfl,S1⟩
 have HE:=kH (ends_tx S1 HR.out HRD.out HN.out code false)
 have hkw:=fun j=>((Sep.txOutN [_,_,_] S1).pull [_,_]).cell j
 have b0:=hkw 0
 have b3:=hkw 3
 simp only [gA,gZ,gS] at b0 b3
 clear S1 hkw
 unfold ptr at *
 go_wp2_with fail
 refine HE.out.mono ?_
 rintro e2 w2 ⟨rfl,q',tv',hg,hq,hR2,S4⟩
 have S5:=(Sep.txOutN [_,_,_] S4).pull [_]
 have HS5:=kH S5
 obtain ⟨⟨d0,d1,d2,d3⟩,⟨i0,i1,i2,i3⟩⟩:=S5.ansBox
 have HQ:=kH hq
 have HR2:=kH hR2
 unfold AnsD.val
 clear S4 S5 hg hq hR2 b0 b3
 go_wp2
 refine Sep.ret (endT t code false).1 rfl HS5.out rfl rfl fun W' SF=>?_
 have S6:Sep w0 X (txC x q' .nilIface tv' (endT t code false).2 (cMem p m L F::Cs)) W':=Sep.txInN [_] ((SF.pull [_]).drop)
 have hwr:(endT t code false).2.writes=t.writes:=rfl
 obtain ⟨F',S7⟩:=Sep.txClose (t:=(endT t code false).2) (a:=0) (k:=0) (lv:=.nilFunc) (by rw [HQ.out,hwr];exact HM.out) HR2.out S6
 exact ⟨rfl,F',F,L,by omega,S7⟩
theorem Do_beg (hS:Sep w0 X (txC x q .nilIface tv t (cMem p m L F::Cs)) w) (hf:fitsT m t y=true) (hk:y.kind=1) (hm:(q.most:Int)=t.writes) (hr:q.R t.list) (hmr:t.ring=m.ring) (hrg:1≤t.ring∧t.ring≤16) (hn:t.told.length≤1073741823) (hL:L≤1073741824) (th:Int) :
   Calls Tryz.prog 56 #[ptr x,ptr p,.int .i64 th,wantV y] w (TxPost w0 X Cs x p L (txDo m t y)):=by
 obtain ⟨kind,cell,value,code⟩:=y
 simp only at hk
 subst hk
 have hdo:txDo m t ⟨1,cell,value,code⟩=txStep m (tellT { t with way:=.beg ⟨t.ring,0,0,0⟩,phase:=1 } { ev0 with kind:=7 }):=by
   unfold txDo
   rw [if_neg (by rw [hf];simp)]
   simp
 rw [hdo]
 have HF:=kH (do_ahead hS hf)
 have hlt:=heap_lt hS.h0
 have HR:=kH hr
 have HN:=kH hn
 have HM:=kH hm
 have HMR:=kH hmr
 have HRG:=kH hrg
 have HL:=kH hL
 clear hS hf hdo hr hn hm hmr hrg hL
 unfold wantV wantO ans0 ptr at *
 go_enter Tryz.func56,Tryz.ntmps56
 go_wp2_with fail
 refine HF.out.mono ?_
 rintro e w1 ⟨rfl,S1⟩
 have HE:=kH (New_beg S1 t.ring HRG.out)
 have hkw:=fun j=>((Sep.txOutN [_,_,_] S1).pull [_,_]).cell j
 have b0:=hkw 0
 have k1:=S1.cell 1
 simp only [txA,gA,gZ,gS] at b0 k1
 clear S1 hkw
 unfold ptr at *
 go_wp2_with fail
 refine HE.out.mono ?_
 rintro e2 w2 ⟨a,rfl,S4⟩
 have S5:=Sep.txInN (t:=t) [_] S4
 have k8:=S5.cell 8
 have k21:=S5.cell 21
 have f8:=S5.froz 8
 have f21:=S5.froz 21
 simp only [txA,gA,gZ,gS] at k8 k21
 have S6:=(S5.txWay (wayV (.beg ⟨t.ring,0,0,0⟩) a)).txPhase 1
 have S6:Sep w0 X (txC x q (wayV (.beg ⟨t.ring,0,0,0⟩) a) tv { t with phase:=1 } (cBlk a (begO ⟨t.ring,0,0,0⟩)::cMem p m L F::_::_::Cs)) _:=S6
 have HT:=kH (tell_tx S6 { ev0 with kind:=7 } (by have:=HN.out;show t.told.length≤_;omega))
 unfold evV evL bareE ev0 zero8 at HT
 simp only [List.getD_cons_zero,List.getD_cons_succ,wayV] at HT
 clear S4 S5 S6
 unfold ptr at *
 go_wp2_with fail
 refine HT.out.mono ?_
 rintro e3 w3 ⟨rfl,tv',S7⟩
 have S7:Sep w0 X (txC x q (wayV (.beg ⟨t.ring,0,0,0⟩) a) tv' (tellT { t with way:=.beg ⟨t.ring,0,0,0⟩,phase:=1 } { ev0 with kind:=7 }) (cBlk a (begO ⟨t.ring,0,0,0⟩)::cMem p m L F::_::_::Cs)) w3:=S7
 have HST:=kH (Step_tx_beg S7 rfl HR.out th ⟨HMR.out,.inl rfl,i64_0,i64_0,fun h=>by simp at h⟩ (by have:=HN.out;simp [tellT];omega) HL.out)
 clear S7 k8 k21 f8 f21
 go_wp2_with fail
 refine HST.out.mono ?_
 intro e4 w4 h4
 obtain ⟨he,F',F2,L',hL',S8⟩:=txPost_ans (stepTx_post (by rw [txStep_writes];exact HM.out) h4)
 subst he
 obtain ⟨⟨d0,d1,d2,d3⟩,⟨i0,i1,i2,i3⟩⟩:=S8.ansBox
 have HS8:=kH S8
 unfold AnsD.val
 clear S8 h4
 go_wp2
 refine Sep.ret (txStep m (tellT { t with way:=.beg ⟨t.ring,0,0,0⟩,phase:=1 } { ev0 with kind:=7 })).1 rfl HS8.out rfl rfl fun W' SF=>⟨rfl,F',F2,L',hL',SF⟩
end
section
open Go.RowKit
variable {w0:World} {X:List Nat} {Cs:List Comp} {w:World} {x p L:Nat} {wv tv:Value} {t:TxD} {q:LogP} {F:List Nat} {m:MemD} {y:WantD}
theorem Do_own (hS:Sep w0 X (txC x q .nilIface tv t (cMem p m L F::Cs)) w) (hw:t.way=.no) (hf:fitsT m t y=true) (hk:y.kind=2) {v:Int} (ho:ownT t.list y.cell=some v) (hc:0≤y.cell∧y.cell≤1024) (hd:(t.list.map (·.1)).Nodup) (hm:(q.most:Int)=t.writes) (hr:q.R t.list) (hn:t.told.length≤1073741824) (th:Int) :
   Calls Tryz.prog 56 #[ptr x,ptr p,.int .i64 th,wantV y] w (TxPost w0 X Cs x p L (txDo m t y)):=by
 obtain ⟨kind,cell,value,code⟩:=y
 simp only at hk ho hc
 subst hk
 have hdo:txDo m t ⟨2,cell,value,code⟩=(⟨3,0,v,false⟩,tellT t { ev0 with kind:=2,cell:=cell,value:=v,own:=true,start:=t.start,seen:=t.seen },m):=by
   unfold txDo
   rw [if_neg (by rw [hf];simp)]
   simp [ho]
 rw [hdo]
 have HF:=kH (do_ahead hS hf)
 have hlt:=heap_lt hS.h0
 have HR:=kH hr
 have HN:=kH hn
 have HM:=kH hm
 have HO0:=kH ho
 have HD:=kH hd
 have HC:=kH hc
 have HW:=kH hw
 clear hS hf hdo hr hn hm ho hd hc hw
 unfold wantV wantO ans0 ptr at *
 go_enter Tryz.func56,Tryz.ntmps56
 go_wp2_with fail
 refine HF.out.mono ?_
 rintro e w1 ⟨rfl,S1⟩
 have HO:=kH (fun r=>Own_log (Sep.logFront (S1.drewN r)) HR.out HD.out cell HC.out)
 rw [HO0.out] at HO
 unfold getV at HO
 have hkw:=fun j=>((Sep.txOutN [_,_,_] S1).pull [_,_]).cell j
 have b0:=hkw 0
 have b1:=hkw 1
 have k7:=S1.cell 7
 simp only [txA,gA,gZ,gS] at b0 b1 k7
 clear S1 hkw
 unfold ptr at *
 go_wp2_with fail
 go_region_held3 (fun w'=>w'.cell? ⟨x,7,none⟩=some (.pointer (some ⟨q.g,0,none⟩))∧w'.cell? ⟨w.heap.size,1,none⟩=some (.int .i64 cell)) (go_keep) (first | (go_at_call 86;refine (HO.out _).mono ?_;rintro e2 w2 ⟨rfl,S2⟩;have S3:=Sep.logBack S2;have k7':=S3.cell 7;simp only [txA,gA,gZ,gS] at k7';have b1':=((Sep.txOutN [_,_,_] S3).pull [_,_]).cell 1;simp only [gA,gZ,gS] at b1';unfold ptr at k7';have HS3:=kH S3;clear S2 S3))
 have S3:=HS3.out
 have hb1:=((Sep.txOutN [_,_,_] S3).pull [_,_]).cell 1
 have hkk:=fun j=>S3.cell j
 have k9:=hkk 9
 have k10:=hkk 10
 simp only [txA,gA,gZ,gS] at hb1 k9 k10
 have HT:=kH (fun r=>tell_tx (S3.drewN r) { ev0 with kind:=2,cell:=cell,value:=v,own:=true,start:=t.start,seen:=t.seen } HN.out)
 unfold evV evL bareE ev0 zero8 at HT
 simp only [List.getD_cons_zero,List.getD_cons_succ] at HT
 clear hkk S3 b0 b1 k7
 unfold ptr at *
 go_wp2_with fail
 refine wp_region_still_tail 13 (by kernel_rfl) (by kernel_rfl) ?_
 change wpStill _ _ (World.drew _) (fun a'=>wpList _ _ _ _ a' (World.drew _)) _ _
 simp only [List.take_succ_cons,List.take_zero,List.drop_succ_cons,List.drop_zero]
 repeat still_step
 refine wpStill_nil ?_
 go_wp2_with fail
 refine (HT.out _).mono ?_
 rintro e2 w4 ⟨rfl,tv',S4⟩
 have S4':Sep w0 X (txC x q .nilIface tv' (tellT t { ev0 with kind:=2,cell:=cell,value:=v,own:=true,start:=t.start,seen:=t.seen }) (cMem p m L F::_::_::Cs)) w4:=S4
 have S5:=(Sep.txOutN [_,_,_] S4').pull [_]
 have HS5:=kH S5
 obtain ⟨⟨d0,d1,d2,d3⟩,⟨i0,i1,i2,i3⟩⟩:=S5.ansBox
 clear S4 S4' S5
 go_wp2
 refine Sep.ret ⟨3,0,v,false⟩ rfl HS5.out rfl rfl fun W' SF=>?_
 have S6:Sep w0 X (txC x q .nilIface tv' (tellT t { ev0 with kind:=2,cell:=cell,value:=v,own:=true,start:=t.start,seen:=t.seen }) (cMem p m L F::Cs)) W':=Sep.txInN [_] ((SF.pull [_]).drop)
 have hwy:(tellT t { ev0 with kind:=2,cell:=cell,value:=v,own:=true,start:=t.start,seen:=t.seen }).way=.no:=HW.out
 obtain ⟨F',S7⟩:=Sep.txClose (t:=tellT t { ev0 with kind:=2,cell:=cell,value:=v,own:=true,start:=t.start,seen:=t.seen }) (a:=0) (k:=0) (lv:=.nilFunc) HM.out HR.out (by rw [hwy];exact S6)
 exact ⟨rfl,F',F,L,by omega,S7⟩
end
section
open Go.RowKit
variable {w0:World} {X:List Nat} {Cs:List Comp} {w:World} {x p L:Nat} {wv tv:Value} {t:TxD} {q:LogP} {F:List Nat} {m:MemD} {y:WantD}
theorem txA_fetch (lg:Nat) (wv tv v:Value) (t:TxD) (b0 b1 b2 b3 b4 b5 b6 b7 c:Int):(((((((((((txA lg wv tv t).setIfInBounds 11 (.int .u64 b0)).setIfInBounds 12 (.int .u64 b1)).setIfInBounds 13 (.int .u64 b2)).setIfInBounds 14 (.int .u64 b3)).setIfInBounds 15 (.int .u64 b4)).setIfInBounds 16 (.int .u64 b5)).setIfInBounds 17 (.int .u64 b6)).setIfInBounds 18 (.int .u64 b7)).setIfInBounds 19 (.int .i64 c)).setIfInBounds 21 v).setIfInBounds 8 (.int .i64 3) =
   txA lg v tv { t with reads:=[b0,b1,b2,b3,b4,b5,b6,b7],cell:=c,phase:=3 }:=by
 simp [txA]
theorem Sep.txFetch {lg:Nat} (h:Sep w0 X (cBlk x (txO lg wv tv t)::Cs) w) (v:Value) (b0 b1 b2 b3 b4 b5 b6 b7 c:Int):Sep w0 X (cBlk x (txO lg v tv { t with reads:=[b0,b1,b2,b3,b4,b5,b6,b7],cell:=c,phase:=3 })::Cs)
   (((((((((((w.setCell ⟨x,11,none⟩ (.int .u64 b0)).setCell ⟨x,12,none⟩ (.int .u64 b1)).setCell ⟨x,13,none⟩ (.int .u64 b2)).setCell ⟨x,14,none⟩ (.int .u64 b3)).setCell ⟨x,15,none⟩ (.int .u64 b4)).setCell ⟨x,16,none⟩ (.int .u64 b5)).setCell ⟨x,17,none⟩ (.int .u64 b6)).setCell ⟨x,18,none⟩ (.int .u64 b7)).setCell ⟨x,19,none⟩ (.int .i64 c)).setCell ⟨x,21,none⟩ v).setCell ⟨x,8,none⟩ (.int .i64 3)):=by
 have h6:=((((((((((h.set 11 (.int .u64 b0)).set 12 (.int .u64 b1)).set 13 (.int .u64 b2)).set 14 (.int .u64 b3)).set 15 (.int .u64 b4)).set 16 (.int .u64 b5)).set 17 (.int .u64 b6)).set 18 (.int .u64 b7)).set 19 (.int .i64 c)).set 21 v).set 8 (.int .i64 3)
 rw [txA_fetch] at h6
 exact h6
theorem Do_read (hS:Sep w0 X (txC x q .nilIface tv t (cMem p m L F::Cs)) w) (hf:fitsT m t y=true) (hk:y.kind=2) (ho:ownT t.list y.cell=none) (hc:0≤y.cell∧y.cell < 1024) (hcm:y.cell < m.cells.length) (hd:(t.list.map (·.1)).Nodup) (hm:(q.most:Int)=t.writes) (hr:q.R t.list) (hrd:SigOk t.reads) (hmr:t.ring=m.ring) (hrg:1≤t.ring∧t.ring≤16) (hst:0≤t.start∧I64 t.start) (hn:t.told.length≤1073741824) (hL:L≤1073741824) (th:Int) :
   Calls Tryz.prog 56 #[ptr x,ptr p,.int .i64 th,wantV y] w (TxPost w0 X Cs x p L (txDo m t y)):=by
 obtain ⟨kind,cell,value,code⟩:=y
 simp only at hk ho hc hcm
 subst hk
 have hdo:txDo m t ⟨2,cell,value,code⟩=txStep m { t with reads:=withC t.reads cell,cell:=cell,way:=.fet ⟨newChk t.ring t.start (withC t.reads cell) true,cell,false,0⟩,phase:=3 }:=by
   unfold txDo
   rw [if_neg (by rw [hf];simp)]
   simp [ho]
 rw [hdo]
 have HF:=kH (do_ahead hS hf)
 have hlt:=heap_lt hS.h0
 have HR:=kH hr
 have HN:=kH hn
 have HM:=kH hm
 have HO0:=kH ho
 have HD:=kH hd
 have HC:=kH hc
 have HCM:=kH hcm
 have HMR:=kH hmr
 have HRG:=kH hrg
 have HST:=kH hst
 have HL:=kH hL
 have HRD:=kH hrd
 have hwd:=withC_ok hrd cell
 have HWD:=kH hwd
 obtain ⟨r0,r1,r2,r3,r4,r5,r6,r7,hq,hv⟩:=agg8 hrd.1
 have HQ:=kH hq
 have HV:=kH hv
 obtain ⟨b0,b1,b2,b3,b4,b5,b6,b7,hqb,hvb⟩:=agg8 hwd.1
 have HQB:=kH hqb
 have HVB:=kH hvb
 clear hS hf hdo hr hn hm ho hd hc hcm hmr hrg hst hL hrd hwd hq hv hqb hvb
 unfold wantV wantO ans0 ptr at *
 go_enter Tryz.func56,Tryz.ntmps56
 go_wp2_with fail
 refine HF.out.mono ?_
 rintro e w1 ⟨rfl,S1⟩
 have HO:=kH (fun r=>Own_log (Sep.logFront (S1.drewN r)) HR.out HD.out cell ⟨HC.out.1,Int.le_of_lt HC.out.2⟩)
 rw [HO0.out] at HO
 unfold getV at HO
 have hkw:=fun j=>((Sep.txOutN [_,_,_] S1).pull [_,_]).cell j
 have e0:=hkw 0
 have e1:=hkw 1
 have k7:=S1.cell 7
 simp only [txA,gA,gZ,gS] at e0 e1 k7
 clear S1 hkw
 unfold ptr at *
 go_wp2_with fail
 go_region_held3 (fun w'=>w'.cell? ⟨x,7,none⟩=some (.pointer (some ⟨q.g,0,none⟩))∧w'.cell? ⟨w.heap.size,1,none⟩=some (.int .i64 cell)) (go_keep) (first | (go_at_call 86;refine (HO.out _).mono ?_;rintro e2 w2 ⟨rfl,S2⟩;have S3:=Sep.logBack S2;have k7':=S3.cell 7;simp only [txA,gA,gZ,gS] at k7';have b1':=((Sep.txOutN [_,_,_] S3).pull [_,_]).cell 1;simp only [gA,gZ,gS] at b1';unfold ptr at k7';have HS3:=kH S3;clear S2 S3))
 have S3:=HS3.out
 have hb1:=((Sep.txOutN [_,_,_] S3).pull [_,_]).cell 1
 have hkk:=fun j=>S3.cell j
 have k1:=hkk 1
 have k9:=hkk 9
 have j0:=hkk 11
 have j1:=hkk 12
 have j2:=hkk 13
 have j3:=hkk 14
 have j4:=hkk 15
 have j5:=hkk 16
 have j6:=hkk 17
 have j7:=hkk 18
 simp only [txA,HQ.out,gA,gZ,gS,List.getD_cons_zero,List.getD_cons_succ] at hb1 k1 k9 j0 j1 j2 j3 j4 j5 j6 j7
 have HT:=kH (fun r=>New_fet (S3.drewN r) t.ring t.start t.reads cell HRG.out HST.out.1 HRD.out HC.out)
 rw [HV.out] at HT
 clear hkk S3 e0 e1 k7 HO
 unfold ptr at *
 go_wp2_with fail
 go_region_held3 (fun w'=>w'.cell? ⟨x,1,none⟩=some (.int .i64 t.ring)∧w'.cell? ⟨x,9,none⟩=some (.int .i64 t.start)∧w'.cell? ⟨x,11,none⟩=some (.int .u64 r0)∧w'.cell? ⟨x,12,none⟩=some (.int .u64 r1)∧w'.cell? ⟨x,13,none⟩=some (.int .u64 r2)∧w'.cell? ⟨x,14,none⟩=some (.int .u64 r3)∧w'.cell? ⟨x,15,none⟩=some (.int .u64 r4)∧w'.cell? ⟨x,16,none⟩=some (.int .u64 r5)∧w'.cell? ⟨x,17,none⟩=some (.int .u64 r6)∧w'.cell? ⟨x,18,none⟩=some (.int .u64 r7)∧w'.cell? ⟨w.heap.size,1,none⟩=some (.int .i64 cell)) (go_keep) (first | (go_at_call 87;refine (HT.out _).mono ?_;rintro e2 w2 ⟨a,k,rfl,S2⟩;have S3:=Sep.txInN (t:=t) [_,_] S2;have hkk:=fun j=>S3.cell j;have i1:=hkk 1;have i9:=hkk 9;have i11:=hkk 11;have i12:=hkk 12;have i13:=hkk 13;have i14:=hkk 14;have i15:=hkk 15;have i16:=hkk 16;have i17:=hkk 17;have i18:=hkk 18;simp only [txA,HQ.out,gA,gZ,gS,List.getD_cons_zero,List.getD_cons_succ] at i1 i9 i11 i12 i13 i14 i15 i16 i17 i18;have b1':=((Sep.txOutN [_,_,_,_,_] S3).pull [_,_,_,_]).cell 1;simp only [gA,gZ,gS] at b1';have HS4:=kH S3;clear S2 S3 hkk))
 have S4:=HS4.out
 have HRS:=kH (fun r=>Reads_fet ((Sep.txOutN [_,_,_,_,_] S4).drewN r) HWD.out.1)
 simp only [newChk,HVB.out] at HRS
 have b1'':=((Sep.txOutN [_,_,_,_,_] S4).pull [_,_,_,_]).cell 1
 simp only [gA,gZ,gS] at b1''
 have hne:x≠w.heap.size:=Nat.ne_of_lt hlt
 clear S4 HT k1 k9 j0 j1 j2 j3 j4 j5 j6 j7 hb1
 go_wp2_with fail
 go_region_held3 (fun w'=>w'.cell? ⟨w.heap.size,1,none⟩=some (.int .i64 cell)) (first | go_keep | simp [*,cell_off]) (first | (go_at_call 88;refine (HRS.out _).mono ?_;rintro e3 w3 ⟨rfl,S5⟩;have b1':=((S5.pull [_,_,_,_]).cell 1);simp only [gA,gZ,gS] at b1';have S6:=Sep.txInN (t:=t) [_,_,_,_,_] S5;have hkk:=fun j=>S6.cell j;have i11:=hkk 11;have i12:=hkk 12;have i13:=hkk 13;have i14:=hkk 14;have i15:=hkk 15;have i16:=hkk 16;have i17:=hkk 17;have i18:=hkk 18;have i19:=hkk 19;have g11:=S6.froz 11;have g12:=S6.froz 12;have g13:=S6.froz 13;have g14:=S6.froz 14;have g15:=S6.froz 15;have g16:=S6.froz 16;have g17:=S6.froz 17;have g18:=S6.froz 18;have g19:=S6.froz 19;have i21:=hkk 21;have i8:=hkk 8;have g21:=S6.froz 21;have g8:=S6.froz 8;simp only [txA,HQ.out,gA,gZ,gS,List.getD_cons_zero,List.getD_cons_succ] at i8 i11 i12 i13 i14 i15 i16 i17 i18 i19 i21;have HS6:=kH S6;clear S5 S6 hkk))
 have S7:=HS6.out.txFetch (.iface 160 (ptr a)) b0 b1 b2 b3 b4 b5 b6 b7 cell
 rw [← HQB.out] at S7
 have S7:Sep w0 X (txC x q (wayV (.fet ⟨newChk t.ring t.start (withC t.reads cell) true,cell,false,0⟩) a) tv { t with reads:=withC t.reads cell,cell:=cell,way:=.fet ⟨newChk t.ring t.start (withC t.reads cell) true,cell,false,0⟩,phase:=3 } (cBlk a (fetO k ⟨newChk t.ring t.start (withC t.reads cell) true,cell,false,0⟩)::cBlk k (chkO (newChk t.ring t.start (withC t.reads cell) true))::cMem p m L F::_::_::Cs)) _:=S7
 have HSTP:=kH (Step_tx_fet S7 rfl HWD.out.1 HR.out th ⟨HMR.out ▸ chk_new true HST.out.1 HST.out.2 HWD.out,⟨HC.out.1,HCM.out⟩,i64_0,fun _=>rfl⟩ HN.out HL.out)
 generalize hRR:txStep m { t with reads:=withC t.reads cell,cell:=cell,way:=.fet ⟨newChk t.ring t.start (withC t.reads cell) true,cell,false,0⟩,phase:=3 }=RR at *
 have hRW:RR.2.1.writes=t.writes:=by rw [← hRR,txStep_writes]
 have HRW:=kH hRW
 unfold ptr at HSTP
 clear S7 hRR hRW b1' b1''
 go_wp2_with fail
 refine HSTP.out.mono ?_
 intro e4 w4 h4
 obtain ⟨he,F',F2,L',hL',S8⟩:=txPost_ans (stepTx_post (by rw [HRW.out];exact HM.out) h4)
 subst he
 obtain ⟨⟨d0,d1,d2,d3⟩,⟨n0,n1,n2,n3⟩⟩:=S8.ansBox
 have HS8:=kH S8
 unfold AnsD.val
 clear S8 h4
 go_wp2
 refine Sep.ret RR.1 rfl HS8.out rfl rfl fun W' SF=>⟨rfl,F',F2,L',hL',SF⟩
end
section
open Go.RowKit
variable {w0:World} {X:List Nat} {Cs:List Comp} {w:World} {x p L:Nat} {wv tv:Value} {t:TxD} {q:LogP} {F:List Nat} {m:MemD} {y:WantD}
theorem Do_put (hS:Sep w0 X (txC x q .nilIface tv t (cMem p m L F::Cs)) w) (hw:t.way=.no) (hf:fitsT m t y=true) (hk:y.kind=3) (hc:0≤y.cell∧y.cell < 1024) (hv:I64 y.value) (hd:(t.list.map (·.1)).Nodup) (hm:(q.most:Int)=t.writes) (hr:q.R t.list) (hwr:SigOk t.wrote) (hrd:t.reads.length=8) (hn:t.told.length≤1073741824) (th:Int) :
   Calls Tryz.prog 56 #[ptr x,ptr p,.int .i64 th,wantV y] w (TxPost w0 X Cs x p L (txDo m t y)):=by
 obtain ⟨kind,cell,value,code⟩:=y
 simp only at hk hc hv
 subst hk
 have hdo:txDo m t ⟨3,cell,value,code⟩=(if (ownT t.list cell).isNone=true∧(t.list.length:Int)=t.writes then ((endT t 5 false).1,(endT t 5 false).2,m)
   else (⟨3,0,0,false⟩,tellT { t with list:=putT t.list cell value,wrote:=withC t.wrote cell } { ev0 with kind:=3,cell:=cell,value:=value },m)):=by
   unfold txDo
   rw [if_neg (by rw [hf];simp)]
   simp
 rw [hdo]
 generalize hRR:(if (ownT t.list cell).isNone=true∧(t.list.length:Int)=t.writes then ((endT t 5 false).1,(endT t 5 false).2,m)
   else ((⟨3,0,0,false⟩:AnsD),tellT { t with list:=putT t.list cell value,wrote:=withC t.wrote cell } { ev0 with kind:=3,cell:=cell,value:=value },m))=RR
 have HRR:=kH hRR
 have HF:=kH (do_ahead hS hf)
 have hlt:=heap_lt hS.h0
 have HR:=kH hr
 have HN:=kH hn
 have HM:=kH hm
 have HD:=kH hd
 have HC:=kH hc
 have HW:=kH hw
 have HWR:=kH hwr
 have HRD:=kH hrd
 have HV:=kH hv
 clear hS hf hdo hr hn hm hd hc hw hRR hwr hrd hv
 unfold wantV wantO ans0 ptr at *
 go_enter Tryz.func56,Tryz.ntmps56
 go_wp2_with fail
 refine HF.out.mono ?_
 rintro e w1 ⟨rfl,S1⟩
 have HO:=kH (fun r=>Write_log (Sep.logFront (S1.drewN r)) HR.out HD.out HWR.out cell value HC.out HV.out)
 have hkw:=fun j=>((Sep.txOutN [_,_,_] S1).pull [_,_]).cell j
 have b0:=hkw 0
 have b1:=hkw 1
 have b2:=hkw 2
 have k7:=S1.cell 7
 simp only [txA,gA,gZ,gS] at b0 b1 b2 k7
 clear S1 hkw
 unfold ptr at *
 go_wp2_with fail
 refine wp_region_still_tail 8 (by kernel_rfl) (by kernel_rfl) ?_
 change wpStill _ _ (World.drew _) (fun a'=>wpList _ _ _ _ a' (World.drew _)) _ _
 simp only [List.take_succ_cons,List.take_zero,List.drop_succ_cons,List.drop_zero]
 repeat still_step
 refine wpStill_nil ?_
 go_wp2_with fail
 refine (HO.out 1).mono ?_
 intro e2 w2 h2
 rcases h2 with ⟨he,hno,q',hg,hmo,hR2,S2⟩ | ⟨he,hyes,q',hg,hmo,hR2,S2⟩
 · subst he
   have S3:=Sep.logBack S2
   rw [← hg] at S3
   have S3:Sep w0 X (txC x q' .nilIface tv { t with list:=putT t.list cell value,wrote:=withC t.wrote cell } (cMem p m L F::_::_::Cs)) w2:=S3
   have hkw:=fun j=>((Sep.txOutN [_,_,_] S3).pull [_,_]).cell j
   have c1:=hkw 1
   have c2:=hkw 2
   simp only [gA,gZ,gS] at c1 c2
   have HT:=kH (tell_tx S3 { ev0 with kind:=3,cell:=cell,value:=value } HN.out)
   unfold evV evL bareE ev0 zero8 ptr at HT
   simp only [List.getD_cons_zero,List.getD_cons_succ] at HT
   have HNO:=kH hno
   have HG:=kH hg
   have HMO:=kH hmo
   have HR2:=kH hR2
   clear S2 S3 hkw b0 b1 b2 k7 hno hg hmo hR2
   go_wp2_with fail
   refine HT.out.mono ?_
   rintro e3 w3 ⟨rfl,tv',S4⟩
   have S4':Sep w0 X (txC x q' .nilIface tv' (tellT { t with list:=putT t.list cell value,wrote:=withC t.wrote cell } { ev0 with kind:=3,cell:=cell,value:=value }) (cMem p m L F::_::_::Cs)) w3:=S4
   have S5:=(Sep.txOutN [_,_,_] S4').pull [_]
   have HS5:=kH S5
   obtain ⟨⟨d0,d1,d2,d3⟩,⟨i0,i1,i2,i3⟩⟩:=S5.ansBox
   clear S4 S4' S5 c1 c2
   go_wp2
   have hR:=HRR.out
   rw [if_neg (by have h1:=HNO.out;have h2:=HM.out;exact fun h=>h1 ⟨h.1,by omega⟩)] at hR
   subst hR
   refine Sep.ret ⟨3,0,0,false⟩ rfl HS5.out rfl rfl fun W' SF=>?_
   have S6:Sep w0 X (txC x q' .nilIface tv' (tellT { t with list:=putT t.list cell value,wrote:=withC t.wrote cell } { ev0 with kind:=3,cell:=cell,value:=value }) (cMem p m L F::Cs)) W':=Sep.txInN [_] ((SF.pull [_]).drop)
   have hwy:(tellT { t with list:=putT t.list cell value,wrote:=withC t.wrote cell } { ev0 with kind:=3,cell:=cell,value:=value }).way=.no:=HW.out
   obtain ⟨F',S7⟩:=Sep.txClose (t:=tellT { t with list:=putT t.list cell value,wrote:=withC t.wrote cell } { ev0 with kind:=3,cell:=cell,value:=value }) (a:=0) (k:=0) (lv:=.nilFunc) (by rw [HMO.out];exact HM.out) HR2.out (by rw [hwy];exact S6)
   exact ⟨rfl,F',F,L,by omega,S7⟩
 · subst he
   have S3:=Sep.logBack S2
   rw [← hg] at S3
   have S3:Sep w0 X (txC x q' .nilIface tv t (cMem p m L F::_::_::Cs)) w2:=S3
   have HE:=kH (ends_tx S3 hR2 HRD.out HN.out 5 false)
   have HYES:=kH hyes
   have HG:=kH hg
   have HMO:=kH hmo
   unfold ptr at HE
   clear S2 S3 b0 b1 b2 k7 hyes hg hmo hR2
   go_wp2_with fail
   refine HE.out.mono ?_
   rintro e3 w3 ⟨rfl,q2,tv',hg2,hq2,hR2,S4⟩
   have S5:=(Sep.txOutN [_,_,_] S4).pull [_]
   have HS5:=kH S5
   obtain ⟨⟨d0,d1,d2,d3⟩,⟨i0,i1,i2,i3⟩⟩:=S5.ansBox
   have HQ:=kH hq2
   have HR2:=kH hR2
   unfold AnsD.val
   clear S4 S5 hg2 hq2 hR2
   go_wp2
   have hR:=HRR.out
   rw [if_pos (by have h1:=HYES.out;have h2:=HM.out;exact ⟨h1.1,by omega⟩)] at hR
   subst hR
   refine Sep.ret (endT t 5 false).1 rfl HS5.out rfl rfl fun W' SF=>?_
   have S6:Sep w0 X (txC x q2 .nilIface tv' (endT t 5 false).2 (cMem p m L F::Cs)) W':=Sep.txInN [_] ((SF.pull [_]).drop)
   have hwr:(endT t 5 false).2.writes=t.writes:=rfl
   obtain ⟨F',S7⟩:=Sep.txClose (t:=(endT t 5 false).2) (a:=0) (k:=0) (lv:=.nilFunc) (by rw [HQ.out,HMO.out,hwr];exact HM.out) HR2.out S6
   exact ⟨rfl,F',F,L,by omega,S7⟩
end
section
open Go.RowKit
variable {w0:World} {X:List Nat} {Cs:List Comp} {w:World} {x p L:Nat} {wv tv:Value} {t:TxD} {q:LogP} {F:List Nat} {m:MemD} {y:WantD}
theorem Do_empty (hS:Sep w0 X (txC x q .nilIface tv t (cMem p m L F::Cs)) w) (hf:fitsT m t y=true) (hk:y.kind=4) (hl:t.list=[]) (hm:(q.most:Int)=t.writes) (hr:q.R t.list) (hrd:t.reads.length=8) (hn:t.told.length≤1073741824) (th:Int) :
   Calls Tryz.prog 56 #[ptr x,ptr p,.int .i64 th,wantV y] w (TxPost w0 X Cs x p L (txDo m t y)):=by
 obtain ⟨kind,cell,value,code⟩:=y
 simp only at hk
 subst hk
 have hdo:txDo m t ⟨4,cell,value,code⟩=((endT t 0 false).1,(endT t 0 false).2,m):=by
   unfold txDo
   rw [if_neg (by rw [hf];simp)]
   simp [hl]
 rw [hdo]
 have HF:=kH (do_ahead hS hf)
 have hlt:=heap_lt hS.h0
 have HR:=kH hr
 have HRD:=kH hrd
 have HN:=kH hn
 have HM:=kH hm
 have HL:=kH hl
 clear hS hf hdo hr hrd hn hm hl
 unfold wantV wantO ans0 ptr at *
 go_enter Tryz.func56,Tryz.ntmps56
 go_wp2_with fail
 refine HF.out.mono ?_
 rintro e w1 ⟨rfl,S1⟩
 have HO:=kH (Writes_log (Sep.logFront S1) (by rw [HL.out];decide))
 have hkw:=fun j=>((Sep.txOutN [_,_,_] S1).pull [_,_]).cell j
 have b0:=hkw 0
 have k7:=S1.cell 7
 simp only [txA,gA,gZ,gS] at b0 k7
 clear S1 hkw
 unfold ptr at *
 go_wp2_with fail
 refine HO.out.mono ?_
 rintro e2 w2 ⟨g,rfl,S2⟩
 have S3:=Sep.logBack S2.drop
 have S3:Sep w0 X (txC x q .nilIface tv t (cMem p m L F::_::_::Cs)) w2:=S3
 have HE:=kH (ends_tx S3 HR.out HRD.out HN.out 0 false)
 have hl0:(t.list.length:Int)=0:=by rw [HL.out];rfl
 have hl1:t.list.length=0:=by rw [HL.out];rfl
 generalize t.list.length=n at hl0 hl1 ⊢
 subst hl1
 clear S2 S3 b0 k7 hl0
 unfold ptr at *
 go_wp2_with fail
 refine HE.out.mono ?_
 rintro e2 w3 ⟨rfl,q',tv',hg,hq,hR2,S4⟩
 have S5:=(Sep.txOutN [_,_,_] S4).pull [_]
 have HS5:=kH S5
 obtain ⟨⟨d0,d1,d2,d3⟩,⟨i0,i1,i2,i3⟩⟩:=S5.ansBox
 have HQ:=kH hq
 have HR2:=kH hR2
 unfold AnsD.val
 clear S4 S5 hg hq hR2
 go_wp2
 refine Sep.ret (endT t 0 false).1 rfl HS5.out rfl rfl fun W' SF=>?_
 have S6:Sep w0 X (txC x q' .nilIface tv' (endT t 0 false).2 (cMem p m L F::Cs)) W':=Sep.txInN [_] ((SF.pull [_]).drop)
 have hwr:(endT t 0 false).2.writes=t.writes:=rfl
 obtain ⟨F',S7⟩:=Sep.txClose (t:=(endT t 0 false).2) (a:=0) (k:=0) (lv:=.nilFunc) (by rw [HQ.out,hwr];exact HM.out) HR2.out S6
 exact ⟨rfl,F',F,L,by omega,S7⟩
theorem Do_com (hS:Sep w0 X (txC x q .nilIface tv t (cMem p m L F::Cs)) w) (hf:fitsT m t y=true) (hk:y.kind=4) (hl:0 < t.list.length∧t.list.length≤24) (hlo:∀ y∈t.list,0≤y.1∧y.1 < 1024) (hm:(q.most:Int)=t.writes) (hr:q.R t.list) (hrd:SigOk t.reads) (hwr:t.wrote.length=8) (hmr:t.ring=m.ring) (hrg:1≤t.ring∧t.ring≤16) (hsp:1≤t.stamps∧t.stamps≤1099511627776) (hst:0≤t.start∧I64 t.start) (hn:t.told.length≤1073741824) (hL:L≤1073741824) (th:Int) :
   Calls Tryz.prog 56 #[ptr x,ptr p,.int .i64 th,wantV y] w (TxPost w0 X Cs x p L (txDo m t y)):=by
 obtain ⟨kind,cell,value,code⟩:=y
 simp only at hk
 subst hk
 have hdo:txDo m t ⟨4,cell,value,code⟩=txStep m { t with way:=.com ⟨t.ring,t.stamps,t.multi,t.start,0,t.reads,newChk t.ring t.start t.reads false,0,0⟩,phase:=4 }:=by
   unfold txDo
   rw [if_neg (by rw [hf];simp)]
   simp only [show ¬ (4:Int)=1 by decide,show ¬ (4:Int)=2 by decide,show ¬ (4:Int)=3 by decide,if_true,if_false]
   rw [if_neg (fun e=>by rw [e] at hl;simp at hl)]
 rw [hdo]
 have HF:=kH (do_ahead hS hf)
 have hlt:=heap_lt hS.h0
 have HR:=kH hr
 have HRD:=kH hrd
 have HN:=kH hn
 have HM:=kH hm
 have HL:=kH hl
 have HLO:=kH hlo
 have HWR:=kH hwr
 have HMR:=kH hmr
 have HRG:=kH hrg
 have HSP:=kH hsp
 have HST:=kH hst
 have HLL:=kH hL
 obtain ⟨r0,r1,r2,r3,r4,r5,r6,r7,hq,hv⟩:=agg8 hrd.1
 have HQ:=kH hq
 have HV:=kH hv
 clear hS hf hdo hr hrd hn hm hl hlo hwr hmr hrg hsp hst hL hq hv
 unfold wantV wantO ans0 ptr at *
 go_enter Tryz.func56,Tryz.ntmps56
 go_wp2_with fail
 refine HF.out.mono ?_
 rintro e w1 ⟨rfl,S1⟩
 have HO:=kH (Writes_log (Sep.logFront S1) HL.out.2)
 have hkw:=fun j=>((Sep.txOutN [_,_,_] S1).pull [_,_]).cell j
 have b0:=hkw 0
 have k7:=S1.cell 7
 simp only [txA,gA,gZ,gS] at b0 k7
 clear S1 hkw
 unfold ptr at *
 go_wp2_with fail
 refine HO.out.mono ?_
 rintro e2 w2 ⟨g,rfl,S2⟩
 have S3:=Sep.logBack S2.drop
 have S3:Sep w0 X (txC x q .nilIface tv t (cMem p m L F::_::_::Cs)) w2:=S3
 have hkk:=fun j=>S3.cell j
 have k0:=hkk 0
 have k1:=hkk 1
 have k2:=hkk 2
 have k3:=hkk 3
 have k4:=hkk 4
 have k5:=hkk 5
 have k6:=hkk 6
 have k9:=hkk 9
 have j0:=hkk 11
 have j1:=hkk 12
 have j2:=hkk 13
 have j3:=hkk 14
 have j4:=hkk 15
 have j5:=hkk 16
 have j6:=hkk 17
 have j7:=hkk 18
 simp only [txA,HQ.out,gA,gZ,gS,List.getD_cons_zero,List.getD_cons_succ] at k0 k1 k2 k3 k4 k5 k6 k9 j0 j1 j2 j3 j4 j5 j6 j7
 have HT:=kH (fun r=>New_com (S3.drewN r) 0 t.ring t.writes t.stamps t.multi 0 none 0 0 t.start t.reads HRG.out HST.out.1 HRD.out HSP.out)
 rw [HV.out] at HT
 unfold cfgV at HT
 have hl0:=HL.out.1
 have hl1:(t.list.length == 0)=false:=beq_eq_false_iff_ne.2 (by omega)
 have hl2:((t.list.length:Int) == 0)=false:=beq_eq_false_iff_ne.2 (by omega)
 clear S2 S3 b0 k7 hkk
 unfold ptr at *
 go_wp2_with fail
 go_region_held3 (fun w'=>w'.cell? ⟨x,0,none⟩=some (.int .i64 0)∧w'.cell? ⟨x,1,none⟩=some (.int .i64 t.ring)∧w'.cell? ⟨x,2,none⟩=some (.int .i64 t.writes)∧w'.cell? ⟨x,3,none⟩=some (.int .i64 t.stamps)∧w'.cell? ⟨x,4,none⟩=some (.bool t.multi)∧w'.cell? ⟨x,5,none⟩=some (.int .i64 0)∧w'.cell? ⟨x,6,none⟩=some (.slice none 0 0)∧w'.cell? ⟨x,9,none⟩=some (.int .i64 t.start)∧w'.cell? ⟨x,11,none⟩=some (.int .u64 r0)∧w'.cell? ⟨x,12,none⟩=some (.int .u64 r1)∧w'.cell? ⟨x,13,none⟩=some (.int .u64 r2)∧w'.cell? ⟨x,14,none⟩=some (.int .u64 r3)∧w'.cell? ⟨x,15,none⟩=some (.int .u64 r4)∧w'.cell? ⟨x,16,none⟩=some (.int .u64 r5)∧w'.cell? ⟨x,17,none⟩=some (.int .u64 r6)∧w'.cell? ⟨x,18,none⟩=some (.int .u64 r7)) (first | go_keep | simp [*,cell_off]) (first | (go_at_call 91;refine (HT.out _).mono ?_;rintro e3 w3 ⟨a,k,rfl,S4⟩;have S5:=Sep.txInN (t:=t) [_,_] S4;have hkk:=fun j=>S5.cell j;have i0:=hkk 0;have i1:=hkk 1;have i2:=hkk 2;have i3:=hkk 3;have i4:=hkk 4;have i5:=hkk 5;have i6:=hkk 6;have i9:=hkk 9;have i11:=hkk 11;have i12:=hkk 12;have i13:=hkk 13;have i14:=hkk 14;have i15:=hkk 15;have i16:=hkk 16;have i17:=hkk 17;have i18:=hkk 18;have i21:=hkk 21;have i8:=hkk 8;have g21:=S5.froz 21;have g8:=S5.froz 8;simp only [txA,HQ.out,gA,gZ,gS,List.getD_cons_zero,List.getD_cons_succ] at i0 i1 i2 i3 i4 i5 i6 i8 i9 i11 i12 i13 i14 i15 i16 i17 i18 i21;have HS5:=kH S5;clear S4 S5 hkk))
 have S7:=(HS5.out.txWay (.iface 167 (ptr a))).txPhase 4
 have S7:Sep w0 X (txC x q (wayV (.com ⟨t.ring,t.stamps,t.multi,t.start,0,t.reads,newChk t.ring t.start t.reads false,0,0⟩) a) tv { t with way:=.com ⟨t.ring,t.stamps,t.multi,t.start,0,t.reads,newChk t.ring t.start t.reads false,0,0⟩,phase:=4 } (cBlk a (comO a k ⟨t.ring,t.stamps,t.multi,t.start,0,t.reads,newChk t.ring t.start t.reads false,0,0⟩)::cBlk k (chkO (newChk t.ring t.start t.reads false))::cMem p m L F::_::_::Cs)) _:=S7
 have HSTP:=kH (Step_tx_com S7 rfl HRD.out.1 HWR.out HR.out HRG.out HL.out HLO.out th ⟨HMR.out,HSP.out,HST.out.1,HST.out.2,HRD.out,(by show (0:Int)≤0∧(0:Int)≤2;decide),fun _=>HMR.out ▸ chk_new false HST.out.1 HST.out.2 HRD.out,fun h=>absurd rfl h⟩ HN.out HLL.out)
 generalize hRR:txStep m { t with way:=.com ⟨t.ring,t.stamps,t.multi,t.start,0,t.reads,newChk t.ring t.start t.reads false,0,0⟩,phase:=4 }=RR at *
 have hRW:RR.2.1.writes=t.writes:=by rw [← hRR,txStep_writes]
 have HRW:=kH hRW
 unfold ptr at HSTP
 clear S7 hRR hRW k0 k1 k2 k3 k4 k5 k6 k9 j0 j1 j2 j3 j4 j5 j6 j7 HT HO
 go_wp2_with fail
 refine HSTP.out.mono ?_
 intro e4 w4 h4
 obtain ⟨he,F',F2,L',hL',S8⟩:=txPost_ans (stepTx_post (by rw [HRW.out];exact HM.out) h4)
 subst he
 obtain ⟨⟨d0,d1,d2,d3⟩,⟨n0,n1,n2,n3⟩⟩:=S8.ansBox
 have HS8:=kH S8
 unfold AnsD.val
 clear S8 h4
 go_wp2
 refine Sep.ret RR.1 rfl HS8.out rfl rfl fun W' SF=>⟨rfl,F',F2,L',hL',SF⟩
end
end Go.Proofs.YtgfogfciobmmpaaGreatDoor
