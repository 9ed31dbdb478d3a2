/- A part of the proof of the law TopTells: Core Core2 Core3 Core4. -/
import Derived.Test.YtgfogfciobmmpaaGreatDoorPAq
import Derived.Test.YtgfogfciobmmpaaGreatDoorPAu
import Derived.Great.BuildSlice
import Derived.Great.FillDense
import Derived.StillTailTactics
set_option linter.unusedSimpArgs false
set_option linter.unusedVariables false
set_option maxRecDepth 100000
set_option maxHeartbeats 8000000
namespace Go.Proofs.YtgfogfciobmmpaaGreatDoor
section
open Go.RowKit
variable {w0:World} {X:List Nat} {Cs:List Comp} {w:World}
structure EvT where
 at_:Int
 thread:Int
 tx:Int
 e:EvD
def evL (y:EvT):List Value:=[.int .i64 y.at_,.int .i64 y.thread,.int .i64 y.tx,.int .i64 y.e.kind,.int .i64 y.e.cell,.int .i64 y.e.value,.bool y.e.own,.int .i64 y.e.start,.int .i64 y.e.seen,.int .i64 y.e.stamp,
 .int .u64 (y.e.sig.getD 0 0),.int .u64 (y.e.sig.getD 1 0),.int .u64 (y.e.sig.getD 2 0),.int .u64 (y.e.sig.getD 3 0),.int .u64 (y.e.sig.getD 4 0),.int .u64 (y.e.sig.getD 5 0),.int .u64 (y.e.sig.getD 6 0),.int .u64 (y.e.sig.getD 7 0),.int .i64 y.e.err]
def evV (y:EvT):Value:=.agg (evL y).toArray
def evCells (l:List EvT):List Value:=l.flatMap evL
theorem evCells_length (l:List EvT):(evCells l).length=l.length * 19:=by
 induction l with
 | nil=>rfl
 | cons y l ih =>
   have e:evCells (y::l)=evL y++evCells l:=rfl
   rw [e]
   simp [ih,evL]
   omega
theorem evCells_add (l:List EvT) (y:EvT):evCells l++evL y=evCells (l++[y]):=by
 unfold evCells
 rw [List.flatMap_append]
 simp
def cEv (v:Value) (l:List EvT):Comp:=cRow 44 19 v l.length (evCells l)
def bareE (e:EvD):EvT:=⟨0,0,0,e⟩
def bare (l:List EvD):List EvT:=l.map bareE
theorem bare_add (l:List EvD) (e:EvD):bare (l++[e])=bare l++[bareE e]:=by simp [bare]
def wayV:WayD→Nat→Value
 | .no,_=>.nilIface
 | .beg _,a=>.iface 154 (ptr a)
 | .fet _,a=>.iface 160 (ptr a)
 | .com _,a=>.iface 167 (ptr a)
 | .bak _,a=>.iface 172 (ptr a)
def txA (lg:Nat) (wv tv:Value) (t:TxD):Array Value:=#[.int .i64 0,.int .i64 t.ring,.int .i64 t.writes,.int .i64 t.stamps,.bool t.multi,.int .i64 0,.slice none 0 0,ptr lg,.int .i64 t.phase,.int .i64 t.start,.int .i64 t.seen,
 .int .u64 (t.reads.getD 0 0),.int .u64 (t.reads.getD 1 0),.int .u64 (t.reads.getD 2 0),.int .u64 (t.reads.getD 3 0),.int .u64 (t.reads.getD 4 0),.int .u64 (t.reads.getD 5 0),.int .u64 (t.reads.getD 6 0),.int .u64 (t.reads.getD 7 0),
 .int .i64 t.cell,.int .i64 t.stamp,wv,tv]
def txO (lg:Nat) (wv tv:Value) (t:TxD):Obj:=.cells (txA lg wv tv t) 128 (0,0)
variable {x lg:Nat} {wv tv:Value} {t:TxD}
theorem txA_told (lg:Nat) (wv tv v:Value) (t:TxD):(txA lg wv tv t).setIfInBounds 22 v=txA lg wv v t:=by simp [txA]
theorem Sep.toldSet (h:Sep w0 X (cBlk x (txO lg wv tv t)::Cs) w) (v:Value):Sep w0 X (cBlk x (txO lg wv v t)::Cs) (w.setCell ⟨x,22,none⟩ v):=by
 have h6:=h.set 22 v
 rw [txA_told] at h6
 exact h6
theorem infoEv:(Tryz.prog.info? 44).map (fun i=>(i.zero,i.size,i.bytes))=some (some (.agg #[.int .i64 0,.int .i64 0,.int .i64 0,.int .i64 0,.int .i64 0,.int .i64 0,.bool false,.int .i64 0,.int .i64 0,.int .i64 0,.int .u64 0,.int .u64 0,.int .u64 0,.int .u64 0,.int .u64 0,.int .u64 0,.int .u64 0,.int .u64 0,.int .i64 0]),19,152):=by kernel_rfl
theorem ev_load (w:World) (g:Nat) (y:EvT) (h:w.heap[g]?=some (.cells (evL y).toArray 44 (0,0))):(loadVar 44 ⟨g,0,none⟩).run Tryz.prog w=.ok (evV y) w :=
 run_loadVar_row w g _ _ _ _ _ h Tryz.underlying44 rfl (by
   obtain ⟨i0,yi,yz0,yz1,yz2⟩:=info_parts infoEv
   rw [yi]
   simp [yz1,evL])
theorem ev_slice (w:World) (y:EvT):(Instr.buildSlice 37 1 #[(0,evV y)]).run Tryz.prog w=.ok (.slice (some ⟨w.heap.size,0,none⟩) 1 1) (w.alloc (.cells (evL y).toArray 44 (0,0))):=by
 obtain ⟨i0,yi,yz0,yz1,yz2⟩:=info_parts infoEv
 refine run_buildSlice w _ _ 1 _ _ i0 _ Tryz.underlying37 yi yz0 (by rw [yz1];decide) (by rw [yz1];decide) ?_
 rw [yz1]
 refine (Great.fill_whole (s:=19) (by decide) [evV y] _ (fun v hv=>by rw [List.mem_singleton.1 hv];simp [evV,evL,Value.cells]) (by simp)).trans ?_
 simp [evV,evL,Value.cells]
theorem fill_one (s:Nat) (hs:0 < s) (cells vs:Array Value) (h1:vs.size=s) (h2:cells.size=s):Instr.fill (fun i=>some (i * s,s)) cells [(0,.agg vs)]=some vs:=by
 refine (Great.fill_whole hs [.agg vs] cells (fun v hv=>by rw [List.mem_singleton.1 hv];exact h1) (by simp [h2])).trans ?_
 simp [Value.cells]
attribute [local go_sem high] fill_one
class EvBlk (w:World) (g:Nat) (cs:outParam (Array Value)):Prop where
 at_:w.heap[g]?=some (.cells cs 44 (0,0))
 len:cs.size=19
theorem load_evBlk {w:World} {g:Nat} {cs:Array Value} [h:EvBlk w g cs]:(loadVar 44 ⟨g,0,none⟩).run Tryz.prog w=.ok (.agg cs) w :=
 run_loadVar_row w g _ _ _ _ _ h.at_ Tryz.underlying44 rfl (by
   obtain ⟨i0,yi,yz0,yz1,yz2⟩:=info_parts infoEv
   rw [yi,h.len,← yz1]
   rfl)
def loadEv (v:Value):Sem Value:=Instr.loadAt 44 v
theorem loadAt_ev (v:Value):Instr.loadAt 44 v=loadEv v:=rfl
theorem loadEv_run {w:World} {g:Nat} {cs:Array Value} [h:EvBlk w g cs]:(loadEv (.pointer (some ⟨g,0,none⟩))).run Tryz.prog w=.ok (.agg cs) w:=by
 unfold loadEv Instr.loadAt
 simp only [Instr.sureAddr,Sem.run_bind,Sem.run_pure,Result.andThen_ok,load_evBlk]
attribute [local go_sem ↓] loadAt_ev
attribute [local go_sem] loadEv_run
def evBox (y:EvT):Obj:=.cells (evL y).toArray 44 (0,0)
theorem evL_one (y:EvT):∀ v∈evL y,v.oneCell'=true:=by
 intro v hv
 simp only [evL,List.mem_cons,List.not_mem_nil,or_false] at hv
 rcases hv with rfl | rfl | rfl | rfl | rfl | rfl | rfl | rfl | rfl | rfl | rfl | rfl | rfl | rfl | rfl | rfl | rfl | rfl | rfl <;> rfl
theorem evL_len (y:EvT):(evL y).length=19:=rfl
theorem tell_tx (hS:Sep w0 X (cBlk x (txO lg wv tv t)::cEv tv (bare t.told)::Cs) w) (e:EvD) (hn:t.told.length≤1073741824) :
   Calls Tryz.prog 85 #[ptr x,evV (bareE e)] w (fun r w'=>r=.returned (.tuple #[])∧∃ tv',Sep w0 X (cBlk x (txO lg wv tv' t)::cEv tv' (bare (t.told++[e]))::Cs) w'):=by
 obtain ⟨i0,yi,yz0,yz1,yz2⟩:=info_parts infoEv
 have hE:=evCells_add (bare t.told) (bareE e)
 rw [← bare_add] at hE
 have hlen:(bare (t.told++[e])).length=t.told.length+1:=by simp [bare]
 have hlen0:(bare t.told).length=t.told.length:=by simp [bare]
 have hlt:=heap_lt hS.h0
 have S1:=hS.alloc (evBox (bareE e))
 have hbox:=heap_new_at (w:=w) (o:=evBox (bareE e)) rfl
 unfold cEv at S1 ⊢
 rw [hlen,← hE]
 rw [hlen0] at S1
 have hone:=evL_one (bareE e)
 have hl19:=evL_len (bareE e)
 have hld:∀ r,(loadVar 44 ⟨w.heap.size,0,none⟩).run Tryz.prog ((w.alloc (evBox (bareE e))).drewN r)=.ok (evV (bareE e)) ((w.alloc (evBox (bareE e))).drewN r):=fun r=>ev_load _ _ _ hbox
 have hsl:∀ r,(Instr.buildSlice 37 1 #[(0,evV (bareE e))]).run Tryz.prog ((w.alloc (evBox (bareE e))).drewN r)=.ok (.slice (some ⟨(w.alloc (evBox (bareE e))).heap.size,0,none⟩) 1 1) (((w.alloc (evBox (bareE e))).drewN r).alloc (.cells (evL (bareE e)).toArray 44 (0,0))):=fun r=>ev_slice _ _
 clear hE hlen hlen0
 unfold evBox evV at *
 have HONE:=kH hone
 have HL:=kH hl19
 generalize bareE e=y at *
 have HNW:Hid (∀ (W:World) (n:Nat) (u:Value),(evL y)[n]?=some u→(W.alloc (.cells (evL y).toArray 44 (0,0))).cell? ((⟨W.heap.size,0,none⟩:Addr).add n)=some u):=fun W n u hu=>new_cell (heap_new_at rfl) n u (by simpa using hu)
 obtain ⟨a0,a1,a2,a3,a4,a5,a6,a7,a8,a9,a10,a11,a12,a13,a14,a15,a16,a17,a18,hnews⟩:∃ a0 a1 a2 a3 a4 a5 a6 a7 a8 a9 a10 a11 a12 a13 a14 a15 a16 a17 a18,evL y=[a0,a1,a2,a3,a4,a5,a6,a7,a8,a9,a10,a11,a12,a13,a14,a15,a16,a17,a18]:=⟨_,_,_,_,_,_,_,_,_,_,_,_,_,_,_,_,_,_,_,rfl⟩
 generalize evL y=news at *
 subst hnews
 generalize evCells (bare t.told)=xs at *
 generalize t.told.length=n at *
 generalize hw1:w.alloc (.cells #[a0,a1,a2,a3,a4,a5,a6,a7,a8,a9,a10,a11,a12,a13,a14,a15,a16,a17,a18] 44 (0,0))=w1 at *
 have HS1:=kH S1
 have hRow:w1.ownsRow 0 44 19 tv n xs:=S1.h1
 have k22:=S1.cell 22
 simp only [txA,gA,gZ,gS] at k22
 have hlt1:=heap_lt S1.h0
 have hblk:EvBlk w1.drew w.heap.size #[a0,a1,a2,a3,a4,a5,a6,a7,a8,a9,a10,a11,a12,a13,a14,a15,a16,a17,a18]:=⟨hbox,rfl⟩
 clear hS S1 hbox hone hl19 hsl hld
 unfold ptr at *
 go_enter Tryz.func85,Tryz.ntmps85
 go_wp2_with fail
 go_region_law (refine step_append_lies _ rfl (.tmp 8) (.tmp 10) 37 rfl 0 44 i0 _ 19 152 Tryz.underlying37 yi yz0 yz1 yz2 rfl (by decide) tv n xs rfl (World.ownsRow.alloc (w:=w1.drewN _) hRow _) ⟨w1.heap.size,0,none⟩ 1 1 [a0,a1,a2,a3,a4,a5,a6,a7,a8,a9,a10,a11,a12,a13,a14,a15,a16,a17,a18] rfl (by rw [HL.out]) (HNW.out _) HONE.out (by decide) (by unfold maxLen;omega) (by omega) (Nat.zero_le _) _ rfl ?_;intro g cap w5 hown5 hgrow5 hat5 hgl5;have S5:=(((HS1.out.drewN _).alloc _).sw.append hgrow5 hown5 hat5 (Nat.le_refl _)).sw;have hcf5:=S5.froz 22;have hcc5:=S5.cell 22;simp only [txA,gA,gZ,gS] at hcc5;have HS5:=kH S5;clear S5)
 all_goals
   have S6:=HS5.out.toldSet (.slice (some ⟨g,0,none⟩) (n+1) cap)
   have HS6:=kH S6
   clear S6 hown5 hgrow5 hat5
   go_wp2
   go_end0
   exact ⟨rfl,_,HS6.out⟩
end
section
open Go.RowKit
variable {w0:World} {X:List Nat} {Cs:List Comp} {w:World} {x p L:Nat} {wv tv:Value} {t:TxD} {q:LogP} {F:List Nat} {m:MemD}
def txC (x:Nat) (q:LogP) (wv tv:Value) (t:TxD) (Cs:List Comp):List Comp:=cBlk x (txO q.g wv tv t)::cEv tv (bare t.told)::logC q t.wrote t.list Cs
theorem txA_over (lg:Nat) (wv tv:Value) (t:TxD):(((((((((((((txA lg wv tv t).setIfInBounds 8 (.int .i64 0)).setIfInBounds 21 .nilIface).setIfInBounds 9 (.int .i64 0)).setIfInBounds 10 (.int .i64 0)).setIfInBounds 11 (.int .u64 0)).setIfInBounds 12 (.int .u64 0)).setIfInBounds 13 (.int .u64 0)).setIfInBounds 14 (.int .u64 0)).setIfInBounds 15 (.int .u64 0)).setIfInBounds 16 (.int .u64 0)).setIfInBounds 17 (.int .u64 0)).setIfInBounds 18 (.int .u64 0))=txA lg .nilIface tv (overT t):=by
 simp [txA,overT,zero8]
theorem Sep.txOver {lg:Nat} (h:Sep w0 X (cBlk x (txO lg wv tv t)::Cs) w):Sep w0 X (cBlk x (txO lg .nilIface tv (overT t))::Cs) ((((((((((((w.setCell ⟨x,8,none⟩ (.int .i64 0)).setCell ⟨x,21,none⟩ .nilIface).setCell ⟨x,9,none⟩ (.int .i64 0)).setCell ⟨x,10,none⟩ (.int .i64 0)).setCell ⟨x,11,none⟩ (.int .u64 0)).setCell ⟨x,12,none⟩ (.int .u64 0)).setCell ⟨x,13,none⟩ (.int .u64 0)).setCell ⟨x,14,none⟩ (.int .u64 0)).setCell ⟨x,15,none⟩ (.int .u64 0)).setCell ⟨x,16,none⟩ (.int .u64 0)).setCell ⟨x,17,none⟩ (.int .u64 0)).setCell ⟨x,18,none⟩ (.int .u64 0)):=by
 have h6:=(((((((((((h.set 8 (.int .i64 0)).set 21 .nilIface).set 9 (.int .i64 0)).set 10 (.int .i64 0)).set 11 (.int .u64 0)).set 12 (.int .u64 0)).set 13 (.int .u64 0)).set 14 (.int .u64 0)).set 15 (.int .u64 0)).set 16 (.int .u64 0)).set 17 (.int .u64 0)).set 18 (.int .u64 0)
 rw [txA_over] at h6
 exact h6
theorem Sep.logFront {a b:Comp} {s:List Int} {l:List (Int×Int)} (h:Sep w0 X (a::b::logC q s l Cs) w):Sep w0 X (logC q s l (a::b::Cs)) w:=by
 unfold logC tabC at *
 have h1:Sep w0 X ([a,b]++([cBlk q.g (logO q.t s),cBlk q.t (tabO q.most q.sb q.sl.length q.lv q.sh),cBlk q.sb (slotO q.sl),cWr q.lv l]++Cs)) w:=h
 have h2:=h1.perm (List.perm_append_comm_assoc [a,b] _ Cs)
 exact h2
theorem Sep.logBack {a b:Comp} {s:List Int} {l:List (Int×Int)} (h:Sep w0 X (logC q s l (a::b::Cs)) w):Sep w0 X (a::b::logC q s l Cs) w:=by
 unfold logC tabC at *
 have h1:Sep w0 X ([cBlk q.g (logO q.t s),cBlk q.t (tabO q.most q.sb q.sl.length q.lv q.sh),cBlk q.sb (slotO q.sl),cWr q.lv l]++([a,b]++Cs)) w:=h
 have h2:=h1.perm (List.perm_append_comm_assoc _ [a,b] Cs)
 exact h2
theorem over_tx (hS:Sep w0 X (txC x q wv tv t Cs) w) (hr:q.R t.list) :
   Calls Tryz.prog 92 #[ptr x] w (fun e w'=>e=.returned (.tuple #[])∧∃ q',q'.g=q.g∧q'.most=q.most∧LogP.R q' []∧Sep w0 X (txC x q' .nilIface tv (overT t) Cs) w'):=by
 have k7:=hS.cell 7
 simp only [txA,gA,gZ,gS] at k7
 have HC:=kH (Clear_log (Sep.logFront hS) hr)
 clear hS hr
 unfold ptr at *
 go_enter Tryz.func92,Tryz.ntmps92
 go_wp2_with fail
 refine HC.out.mono ?_
 rintro e w1 ⟨rfl,q',hg,hm,hR,S1⟩
 have S2:=Sep.logBack S1
 have hk:=fun j=>S2.cell j
 simp only [txA] at hk
 have f8:=S2.froz 8
 have f9:=S2.froz 9
 have f10:=S2.froz 10
 have f11:=S2.froz 11
 have f12:=S2.froz 12
 have f13:=S2.froz 13
 have f14:=S2.froz 14
 have f15:=S2.froz 15
 have f16:=S2.froz 16
 have f17:=S2.froz 17
 have f18:=S2.froz 18
 have f21:=S2.froz 21
 have c8:=hk 8
 have c9:=hk 9
 have c10:=hk 10
 have c11:=hk 11
 have c12:=hk 12
 have c13:=hk 13
 have c14:=hk 14
 have c15:=hk 15
 have c16:=hk 16
 have c17:=hk 17
 have c18:=hk 18
 have c21:=hk 21
 simp only [gA,gZ,gS] at c8 c9 c10 c11 c12 c13 c14 c15 c16 c17 c18 c21
 generalize (Value.int .u64 (t.reads.getD 0 0))=v0 at c11
 generalize (Value.int .u64 (t.reads.getD 1 0))=v1 at c12
 generalize (Value.int .u64 (t.reads.getD 2 0))=v2 at c13
 generalize (Value.int .u64 (t.reads.getD 3 0))=v3 at c14
 generalize (Value.int .u64 (t.reads.getD 4 0))=v4 at c15
 generalize (Value.int .u64 (t.reads.getD 5 0))=v5 at c16
 generalize (Value.int .u64 (t.reads.getD 6 0))=v6 at c17
 generalize (Value.int .u64 (t.reads.getD 7 0))=v7 at c18
 have HS2:=kH S2
 have HR:=kH hR
 have HG:=kH hg
 have HM:=kH hm
 clear S1 S2 hk hR hg hm k7
 go_wp2
 go_end0
 refine ⟨rfl,q',HG.out,HM.out,HR.out,?_⟩
 have S3:=HS2.out
 rw [← HG.out] at S3
 exact S3.txOver
end
section
open Go.RowKit
variable {w0:World} {X:List Nat} {Cs:List Comp} {w:World} {x p L:Nat} {wv tv:Value} {t:TxD} {q:LogP} {F:List Nat} {m:MemD}
theorem Sep.txIn {b:Comp} (h:Sep w0 X (b::txC x q wv tv t Cs) w):Sep w0 X (txC x q wv tv t (b::Cs)) w:=by
 unfold txC logC tabC at *
 have h1:Sep w0 X ([b]++([cBlk x (txO q.g wv tv t),cEv tv (bare t.told),cBlk q.g (logO q.t t.wrote),cBlk q.t (tabO q.most q.sb q.sl.length q.lv q.sh),cBlk q.sb (slotO q.sl),cWr q.lv t.list]++Cs)) w:=h
 exact h1.perm (List.perm_append_comm_assoc [b] _ Cs)
theorem Sep.txOut {b:Comp} (h:Sep w0 X (txC x q wv tv t (b::Cs)) w):Sep w0 X (b::txC x q wv tv t Cs) w:=by
 unfold txC logC tabC at *
 have h1:Sep w0 X ([cBlk x (txO q.g wv tv t),cEv tv (bare t.told),cBlk q.g (logO q.t t.wrote),cBlk q.t (tabO q.most q.sb q.sl.length q.lv q.sh),cBlk q.sb (slotO q.sl),cWr q.lv t.list]++([b]++Cs)) w:=h
 exact h1.perm (List.perm_append_comm_assoc _ [b] Cs)
theorem ends_tx (hS:Sep w0 X (txC x q wv tv t Cs) w) (hr:q.R t.list) (hrd:t.reads.length=8) (hn:t.told.length≤1073741824) (er:Int) (ac:Bool) :
   Calls Tryz.prog 57 #[ptr x,.int .i64 er,.bool ac] w (fun e w'=>e=.returned (endT t er ac).1.val∧∃ q' tv',q'.g=q.g∧q'.most=q.most∧LogP.R q' []∧Sep w0 X (txC x q' .nilIface tv' (endT t er ac).2 Cs) w'):=by
 have S0:=hS.new ans0
 have S1:=(Sep.txIn S0).drew
 have HT:=kH (tell_tx S1 { ev0 with kind:=6,err:=er,start:=t.start,seen:=t.seen,sig:=t.reads } hn)
 have HR:=kH hr
 obtain ⟨r0,r1,r2,r3,r4,r5,r6,r7,hq⟩:=eight hrd
 have hk:=fun j=>hS.cell j
 simp only [txA,hq] at hk
 have c9:=hk 9
 have c10:=hk 10
 have c11:=hk 11
 have c12:=hk 12
 have c13:=hk 13
 have c14:=hk 14
 have c15:=hk 15
 have c16:=hk 16
 have c17:=hk 17
 have c18:=hk 18
 simp only [gA,gZ,gS,List.getD_cons_zero,List.getD_cons_succ] at c9 c10 c11 c12 c13 c14 c15 c16 c17 c18
 unfold evV evL bareE ev0 at HT
 rw [hq] at HT
 simp only [List.getD_cons_zero,List.getD_cons_succ] at HT
 have hlt:=heap_lt hS.h0
 have HEND:Hid (endT t er ac=(if er=0 then ⟨3,0,0,ac⟩ else ⟨4,er,0,ac⟩,overT (tellT t { ev0 with kind:=6,err:=er,start:=t.start,seen:=t.seen,sig:=t.reads }))):=rfl
 generalize endT t er ac=R at HEND ⊢
 have HQ:=kH hq
 clear hS S0 S1 hr hrd hk hn hq
 obtain ⟨st,hst⟩:∃ st,t.start=st:=⟨_,rfl⟩
 obtain ⟨sn,hsn⟩:∃ sn,t.seen=sn:=⟨_,rfl⟩
 rw [hst] at c9 HT
 rw [hsn] at c10 HT
 have HST:=kH hst
 have HSN:=kH hsn
 clear hst hsn
 unfold ptr at *
 go_enter Tryz.func57,Tryz.ntmps57
 go_wp2_with fail
 refine wp_region_still_tail 15 (by kernel_rfl) (by kernel_rfl) ?_
 change wpStill _ _ (World.drew _) (fun a'=>wpList _ _ _ _ a' (World.drew _)) _ _
 simp only [List.take_succ_cons,List.take_zero,List.drop_succ_cons,List.drop_zero]
 repeat still_step
 refine wpStill_nil ?_
 go_wp2_with fail
 refine HT.out.mono ?_
 rintro e1 w1 ⟨rfl,tv',S2⟩
 have S3:Sep w0 X (txC x q wv tv' (tellT t { ev0 with kind:=6,err:=er,start:=t.start,seen:=t.seen,sig:=t.reads }) (cBlk w.heap.size ans0::Cs)) w1:=by
   rw [HQ.out,HST.out,HSN.out]
   exact S2
 have HO:=kH (over_tx S3 HR.out)
 clear S2 S3 c9 c10 c11 c12 c13 c14 c15 c16 c17 c18
 go_wp2_with fail
 refine HO.out.mono ?_
 rintro e2 w2 ⟨rfl,q',hg,hm,hR,S4⟩
 have S5:=Sep.txOut S4
 obtain ⟨⟨a0,a1,a2,a3⟩,⟨g0,g1,g2,g3⟩⟩:=S5.ansBox
 have HS5:=kH S5
 have HG:=kH hg
 have HM:=kH hm
 have HR2:=kH hR
 clear S4 S5 hg hm hR
 by_cases h0:er=0
 · subst h0
   go_wp2
   have hR:=HEND.out
   rw [if_pos trivial] at hR
   subst hR
   refine Sep.ret ⟨3,0,0,ac⟩ rfl HS5.out rfl rfl fun W' SF=>⟨rfl,q',tv',HG.out,HM.out,HR2.out,SF⟩
 · have HN0:=kH h0
   go_wp2
   have hR:=HEND.out
   rw [if_neg HN0.out] at hR
   subst hR
   refine Sep.ret ⟨4,er,0,ac⟩ rfl HS5.out rfl rfl fun W' SF=>⟨rfl,q',tv',HG.out,HM.out,HR2.out,SF⟩
end
section
open Go.RowKit
variable {w0:World} {X:List Nat} {Cs:List Comp} {w:World} {x p L:Nat} {wv tv:Value} {t:TxD} {q:LogP} {F:List Nat} {m:MemD}
def wantV (y:WantD):Value:=.agg #[.int .i64 y.kind,.int .i64 y.cell,.int .i64 y.value,.int .i64 y.code]
theorem fits_tx (hS:Sep w0 X (cBlk x (txO q.g wv tv t)::cMem p m L F::Cs) w) (y:WantD) :
   Calls Tryz.prog 83 #[ptr x,ptr p,wantV y] w (fun e w'=>e=.returned (.bool (fitsT m t y))∧Sep w0 X (cBlk x (txO q.g wv tv t)::cMem p m L F::Cs) w'):=by
 obtain ⟨kind,cell,value,code⟩:=y
 have HZ:=kH ((hS.new (.cells #[.int .i64 kind,.int .i64 cell,.int .i64 value,.int .i64 code] 109 (0,0))).f2.sizes)
 unfold wantV
 generalize hR:fitsT m t ⟨kind,cell,value,code⟩=R
 unfold fitsT at hR
 simp only at hR
 have HR:=kH hR
 clear hS hR
 unfold ptr at *
 go_enter Tryz.func83,Tryz.ntmps83
 go_wp2_with fail
 refine HZ.out.mono ?_
 rintro e w1 ⟨rfl,S1⟩
 have a0:=S1.cell1 0
 have a1:=S1.cell1 1
 have a3:=S1.cell1 3
 have b1:=S1.cell2 1
 have b8:=S1.cell2 8
 simp only [txA,gA,gZ,gS] at a0 a1 a3 b1 b8
 have HS1:=kH S1.sw.drop.sw
 generalize t.ring=ring at *
 generalize t.phase=phase at *
 generalize m.ring=mr at *
 generalize m.cells.length=nc at *
 clear S1
 by_cases hring:mr=ring
 rotate_left
 · have hrb:(mr == ring)=false:=by simpa using hring
   have HRB:=kH hring
   go_wp2
   go_ret
   exact ⟨by have h:=HR.out;rw [decide_eq_false HRB.out] at h;simp at h;rw [h];rfl,HS1.out⟩
 · subst hring
   by_cases h1:kind=1
   · subst h1
     have HH:=kH HR.out
     go_wp2
     go_ret
     exact ⟨by have h:=HH.out;simp at h;rw [← h];rfl,HS1.out⟩
   · by_cases h23:kind=2∨kind=3
     · by_cases hp:phase=2
       · by_cases hc0:0≤cell
         · by_cases hc1:cell < nc
           · have hh:R=true:=by have h:=HR.out;rw [if_neg h1,if_pos h23] at h;simp [hp,hc0,hc1] at h;exact h
             have HH:=kH hh
             clear hh
             subst hp
             rcases h23 with rfl | rfl
             all_goals
               go_wp2
               go_ret
               exact ⟨by rw [HH.out];rfl,HS1.out⟩
           · have hh:R=false:=by have h:=HR.out;rw [if_neg h1,if_pos h23] at h;simp [hp,hc0,hc1] at h;exact h
             have d1:decide (cell < (nc:Int))=false:=decide_eq_false hc1
             have HH:=kH hh
             clear hh
             subst hp
             rcases h23 with rfl | rfl
             all_goals
               go_wp2
               go_ret
               exact ⟨by rw [HH.out];rfl,HS1.out⟩
         · have hh:R=false:=by have h:=HR.out;rw [if_neg h1,if_pos h23] at h;simp [hp,hc0] at h;exact h
           have HH:=kH hh
           clear hh
           subst hp
           rcases h23 with rfl | rfl
           all_goals
             go_wp2
             go_ret
             exact ⟨by rw [HH.out];rfl,HS1.out⟩
       · have hpb:(phase == 2)=false:=by simpa using hp
         have hh:R=false:=by have h:=HR.out;rw [if_neg h1,if_pos h23] at h;simp [hp] at h;exact h
         have HH:=kH hh
         clear hh
         rcases h23 with rfl | rfl
         all_goals
           go_wp2
           go_ret
           exact ⟨by rw [HH.out];rfl,HS1.out⟩
     · have h2:kind≠2:=fun e=>h23 (.inl e)
       have h3:kind≠3:=fun e=>h23 (.inr e)
       by_cases h4:kind=4
       · have hh:R=decide (phase=2):=by have h:=HR.out;rw [if_neg h1,if_neg h23,if_pos h4] at h;simp at h;rw [← h]
         have HH:=kH hh
         clear hh
         subst h4
         by_cases hp:phase=2
         · subst hp
           go_wp2
           go_ret
           exact ⟨by rw [HH.out];rfl,HS1.out⟩
         · have hpb:(phase == 2)=false:=by simpa using hp
           have HP:=kH hp
           go_wp2
           go_ret
           exact ⟨by rw [HH.out,decide_eq_false HP.out];rfl,HS1.out⟩
       · by_cases h5:kind=5
         · have hh:R=decide (phase=2∧(code=8∨code=7)):=by have h:=HR.out;rw [if_neg h1,if_neg h23,if_neg h4,if_pos h5] at h;simp at h;rw [← h];simp
           have HH:=kH hh
           clear hh
           subst h5
           by_cases hp:phase=2
           · subst hp
             by_cases h8:code=8
             · subst h8
               go_wp2
               go_ret
               exact ⟨by rw [HH.out];rfl,HS1.out⟩
             · have h8b:(code == 8)=false:=by simpa using h8
               by_cases h7:code=7
               · subst h7
                 go_wp2
                 go_ret
                 exact ⟨by rw [HH.out];rfl,HS1.out⟩
               · have h7b:(code == 7)=false:=by simpa using h7
                 have hh:R=false:=by have h:=HH.out;rw [h];exact decide_eq_false (fun e=>e.2.elim h8 h7)
                 have HD:=kH hh
                 clear hh
                 go_wp2
                 go_ret
                 exact ⟨by rw [HD.out];rfl,HS1.out⟩
           · have hpb:(phase == 2)=false:=by simpa using hp
             have hh:R=false:=by have h:=HH.out;rw [h];exact decide_eq_false (fun e=>hp e.1)
             have HD:=kH hh
             clear hh
             go_wp2
             go_ret
             exact ⟨by rw [HD.out];rfl,HS1.out⟩
         · have hh:R=false:=by have h:=HR.out;rw [if_neg h1,if_neg h23,if_neg h4,if_neg h5] at h;simp at h;rw [h]
           have HH:=kH hh
           clear hh
           have e1:(kind == 1)=false:=by simpa using h1
           have e2:(kind == 2)=false:=by simpa using h2
           have e3:(kind == 3)=false:=by simpa using h3
           have e4:(kind == 4)=false:=by simpa using h4
           have e5:(kind == 5)=false:=by simpa using h5
           clear h1 h2 h3 h4 h5 h23
           go_wp2
           go_ret
           exact ⟨by rw [HH.out];rfl,HS1.out⟩
end
end Go.Proofs.YtgfogfciobmmpaaGreatDoor
