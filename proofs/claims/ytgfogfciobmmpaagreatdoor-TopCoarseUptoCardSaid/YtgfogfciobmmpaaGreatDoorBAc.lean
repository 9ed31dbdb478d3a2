/- A part of the proof of a law of carouseltop: Load Store. -/
import Derived.Test.YtgfogfciobmmpaaGreatDoorBAa
set_option linter.unusedSimpArgs false
set_option linter.unusedVariables false
set_option maxRecDepth 100000
set_option maxHeartbeats 8000000
namespace Go.Proofs.YtgfogfciobmmpaaGreatDoor
open Go.RowKit
theorem pU(w:World)(p hb sb cb:Nat)(lv:Value)(m:au)(L:Nat)(q:Addr)(v th k i j:Int)(h:dW w p hb sb cb lv m L)
  (hw:∀ W,dW W p hb sb cb lv m L->Calls Tryz.prog 218 #[ptr p,cH k i j] W (pk q W)) (hq:w.cell? q=some (.int .i64 v)) (hqb:q.block<w.heap.size) (hqr:q.block∉bR lv) (hq4:q≠⟨p,4,none⟩) (hL:L<=1073741824) :
  Calls Tryz.prog 215 #[ptr p,.int .i64 th,cH k i j] w (fun e w'=>e=.returned (.tuple #[.int .i64 v,.int .i64 0])/\∃ lv',dW w' p hb sb cb lv' m (L+1)/\aQ (p::hb::sb::cb::bR lv) w w'/\dz w.heap.size (bR lv) (bR lv')):=by
 obtain⟨nl,xl,hnl,hrow⟩:=h.log
 obtain⟨i0,yi,yz0,yz1,yz2⟩:=info_parts pL
 have hlt:=h.lt
 have hR:=kH h
 have HW:=kH hw
 clear h hw
 unfold ptr cH at *
 go_enter Tryz.func215,Tryz.ntmps215
 go_wp2_with fail
 have hR0:=hR.out.keep (w':=w.alloc (.cells #[.int .i64 k,.int .i64 i,.int .i64 j] 260 (0,0))) (fun x hx=>heap_alloc_old w _ (hlt x hx))
 refine(HW.out _ hR0).mono ?_
 rintro e w1 ⟨rfl,hb1⟩
 have hbel:Below w.heap.size w w1:=(ai w _).trans (hb1.mono (by simp))
 have hR1:=hR0.keep (w':=w1) (fun x hx=>hb1.block x (by have:=hlt x hx;simp;omega))
 have hbox:=hb1.block w.heap.size (by simp)
 rw[ar rfl]at hbox
 obtain⟨e0,e1,e2⟩:=oI hbox
 obtain⟨c0,c1,c2,c3,c4,hp⟩:=hR1.box
 have hz1:=hb1.size
 simp at hz1
 have hq1:w1.cell? q=some (.int .i64 v):=(hbel.cell (p:=q) hqb).trans hq
 have hRow:w1.ownsRow 0 277 8 lv nl xl:=hrow.keep (fun x hx=>hbel.block x (hrow.lt x hx))
 have HR1:=kH hR1
 have HB:=kH hbel
 have hnd:=hR1.apart
 have hpf:=frozen_of_row w1 p 4 _ _ hR1.blk
 have hpl:p∉bR lv:=fun hx=>by simp only[List.nodup_cons,List.mem_cons]at hnd;exact hnd.1 (.inr (.inr (.inr hx)))
 have HPL:=kH hpl
 have HN:=kH hnd
 clear hb1 hR0 hR1 hbox hbel hq hlt hnd hpl
 go_wp2_with fail
 have HNW:Hid (∀ r (n:Nat) (u:Value),[Value.int .i64 th,.int .i64 1,.int .i64 k,.int .i64 i,.int .i64 j,.int .i64 0,.int .i64 v,.bool false][n]?=some u->((w1.drewN r).alloc (.cells #[.int .i64 th,.int .i64 1,.int .i64 k,.int .i64 i,.int .i64 j,.int .i64 0,.int .i64 v,.bool false] 277 (0,0))).cell? ((⟨w1.heap.size,0,none⟩:Addr).add n)=some u):=fun r n u hu=>cG (ar (w:=w1.drewN r) rfl) n u hu
 go_region_law(refine step_append_lies _ rfl (.tmp 18) (.tmp 25) 118 rfl 0 277 i0 _ 8 64 Tryz.underlying118 yi yz0 yz1 yz2 rfl (by decide) lv nl xl rfl (World.ownsRow.alloc (w:=w1.drewN _) hRow _) ⟨w1.heap.size,0,none⟩ 1 1 [.int .i64 th,.int .i64 1,.int .i64 k,.int .i64 i,.int .i64 j,.int .i64 0,.int .i64 v,.bool false] rfl rfl (HNW.out _) (by simp[Value.oneCell']) (by decide) (by unfold maxLen;omega) (by omega) (Nat.zero_le _) _ rfl ?_;intro g cap w5 hown5 hgrow5 hat5 hgl5;have hS5:w5.heap[p]?=some _:=(hgrow5.block p (by simp;omega) (fun e=>HPL.out (fL e.symm))).trans (bS (w:=w1.drewN _) HR1.out.blk);have hcf5:=frozen_of_row w5 p 4 _ _ hS5;have hcc5:=cell_of_row w5 p 4 _ _ _ hS5;have HS5:=kH hS5;clear hS5)
 all_goals
  obtain⟨hR6,hK6,hF6,hC6⟩:=mV (aQ.of_below HB.out _) HR1.out (by exact⟨rfl,rfl,rfl,by simp,fun k hk _=>heap_alloc_old w1 _ hk⟩) hgrow5 hat5 hnl hown5
  have hq6:=hC6 q _ (show q.block<w1.heap.size by omega) hqr hq4 hq1
  generalize w5.setCell ⟨p,4,none⟩ (.slice (some ⟨g,0,none⟩) (nl+1) cap)=w6 at *
  have HR6:=kH hR6
  have HK6:=kH hK6
  have HFR:=kH hF6
  clear hR6 hK6 hF6 hC6 hown5 hgrow5 hat5
  go_wp2
  go_ret2
  exact⟨rfl,_,HR6.out,HK6.out,HFR.out⟩
theorem ro(w:World)(p hb sb cb:Nat)(lv:Value)(m:au)(L:Nat)(q:Addr)(v th k i j:Int)(m':au)(h:dW w p hb sb cb lv m L)
  (hw:∀ W,dW W p hb sb cb lv m L->Calls Tryz.prog 218 #[ptr p,cH k i j] W (pk q W)) (hset:∀ W,dW W p hb sb cb lv m L->BK W p hb sb cb lv m m' L q v) (hL:L<=1073741824) :
  Calls Tryz.prog 175 #[ptr p,.int .i64 th,cH k i j,.int .i64 v] w (fun e w'=>e=.returned (.int .i64 0)/\∃ lv',dW w' p hb sb cb lv' m' (L+1)/\aQ (p::hb::sb::cb::bR lv) w w'/\dz w.heap.size (bR lv) (bR lv')):=by
 obtain⟨nl,xl,hnl,hrow⟩:=h.log
 obtain⟨i0,yi,yz0,yz1,yz2⟩:=info_parts pL
 have hlt:=h.lt
 have hR:=kH h
 have HW:=kH hw
 clear h hw
 unfold ptr cH at *
 go_enter Tryz.func175,Tryz.ntmps175
 go_wp2_with fail
 have hR0:=hR.out.keep (w':=w.alloc (.cells #[.int .i64 k,.int .i64 i,.int .i64 j] 260 (0,0))) (fun x hx=>heap_alloc_old w _ (hlt x hx))
 refine(HW.out _ hR0).mono ?_
 rintro e w1 ⟨rfl,hb1⟩
 have hbel:Below w.heap.size w w1:=(ai w _).trans (hb1.mono (by simp))
 have hR1:=hR0.keep (w':=w1) (fun x hx=>hb1.block x (by have:=hlt x hx;simp;omega))
 have hbox:=hb1.block w.heap.size (by simp)
 rw[ar rfl]at hbox
 obtain⟨e0,e1,e2⟩:=oI hbox
 have hz1:=hb1.size
 simp at hz1
 have hS:=hset w1 hR1
 obtain⟨uq,hu⟩:=hS.there
 have hqf:=hS.froz
 have hqlt:q.block<w.heap.size:=hlt _ hS.blk
 have hR2:=hS.rep
 have hK2:aQ (p::hb::sb::cb::bR lv) w (w1.setCell q (.int .i64 v)):=(aQ.of_below hbel _).set (.inl hS.blk) _
 have hbox2:=al (q:=q) (v:=.int .i64 v) hbox (by omega)
 obtain⟨f0,f1,f2⟩:=oI hbox2
 obtain⟨c0,c1,c2,c3,c4,hp⟩:=hR2.box
 have hrow2:=hrow.keep (w':=w1.setCell q (.int .i64 v)) (fun x hx=>(heap_setCell_other _ _ _ _ (fun e=>hS.nor (e▸hx))).trans (hbel.block x (hrow.lt x hx)))
 have hpf:=frozen_of_row _ p 4 _ _ hR2.blk
 have hnd:=hR2.apart
 have hpl:p∉bR lv:=fun hx=>by simp only[List.nodup_cons,List.mem_cons]at hnd;exact hnd.1 (.inr (.inr (.inr hx)))
 have HPL:=kH hpl
 have HSET:=kH hS
 clear hb1 hR0 hR1 hbox hbox2 hbel hlt hnd hpl hset hS c0 c1 c2 c3
 go_wp2_with fail
 have hz2:w1.heap.size=(w1.setCell q (.int .i64 v)).heap.size:=by simp
 generalize w1.setCell q (.int .i64 v)=wr at *
 have hRow:wr.ownsRow 0 277 8 lv nl xl:=hrow2
 have HR1:=kH hR2
 have HB:=kH hK2
 clear e0 e1 e2 hu hqf hR2 hK2 hrow2
 have HNW:Hid (∀ r (n:Nat) (u:Value),[Value.int .i64 th,.int .i64 2,.int .i64 k,.int .i64 i,.int .i64 j,.int .i64 0,.int .i64 v,.bool false][n]?=some u->((wr.drewN r).alloc (.cells #[.int .i64 th,.int .i64 2,.int .i64 k,.int .i64 i,.int .i64 j,.int .i64 0,.int .i64 v,.bool false] 277 (0,0))).cell? ((⟨wr.heap.size,0,none⟩:Addr).add n)=some u):=fun r n u hu=>cG (ar (w:=wr.drewN r) rfl) n u hu
 go_region_law(refine step_append_lies _ rfl (.tmp 22) (.tmp 27) 118 rfl 0 277 i0 _ 8 64 Tryz.underlying118 yi yz0 yz1 yz2 rfl (by decide) lv nl xl rfl (World.ownsRow.alloc (w:=wr.drewN _) hRow _) ⟨wr.heap.size,0,none⟩ 1 1 [.int .i64 th,.int .i64 2,.int .i64 k,.int .i64 i,.int .i64 j,.int .i64 0,.int .i64 v,.bool false] rfl rfl (HNW.out _) (by simp[Value.oneCell']) (by decide) (by unfold maxLen;omega) (by omega) (Nat.zero_le _) _ rfl ?_;intro g cap w5 hown5 hgrow5 hat5 hgl5;have hS5:w5.heap[p]?=some _:=(hgrow5.block p (by simp;omega) (fun e=>HPL.out (fL e.symm))).trans (bS (w:=wr.drewN _) HR1.out.blk);have hcf5:=frozen_of_row w5 p 4 _ _ hS5;have hcc5:=cell_of_row w5 p 4 _ _ _ hS5;have HS5:=kH hS5;clear hS5)
 all_goals
  obtain⟨hR6,hK6,hF6,hC6⟩:=mV HB.out HR1.out (by exact⟨rfl,rfl,rfl,by simp,fun k hk _=>heap_alloc_old wr _ hk⟩) hgrow5 hat5 hnl hown5
  generalize w5.setCell ⟨p,4,none⟩ (.slice (some ⟨g,0,none⟩) (nl+1) cap)=w6 at *
  have HR6:=kH hR6
  have HK6:=kH hK6
  have HFR:=kH hF6
  clear hR6 hK6 hF6 hC6 hown5 hgrow5 hat5
  go_wp2
  go_ret
  exact⟨rfl,_,HR6.out,HK6.out,HFR.out⟩
end Go.Proofs.YtgfogfciobmmpaaGreatDoor
