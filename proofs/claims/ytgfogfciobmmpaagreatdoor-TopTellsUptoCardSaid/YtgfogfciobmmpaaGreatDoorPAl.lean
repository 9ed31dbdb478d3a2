/- A part of the proof of the law TopTells: Chk2. -/
import Derived.Test.YtgfogfciobmmpaaGreatDoorPAh
import Derived.Test.YtgfogfciobmmpaaGreatDoorPAk
set_option linter.unusedSimpArgs false
set_option linter.unusedVariables false
set_option maxRecDepth 100000
set_option maxHeartbeats 8000000
namespace Go.Proofs.YtgfogfciobmmpaaGreatDoor
section
open Go.RowKit
attribute [local go_sem] run_equal_sig eqg_sig
theorem step_fin4 {w w2 W9:World} {x p L g:Nat} {F F2:List Nat} {m:MemD} (hk:Kept (x::F) w w2) (hr:RepM w2 p m (L+1) F2) (hf:Fresh w.heap.size F F2) (hx:x ∉ F2) (hg:w.heap.size≤g) (hg2:g ∉ F2) (hxg:x≠g)
   (a:AnsD) (o:Obj) (h9:Kept [x,g] w2 W9) (ho:W9.heap[x]?=some o) (k e v b:Value) :
   StepOf x p L F (fun w'=>w'.heap[x]?=some o) a m w (.returned a.val) ((((W9.setCell ⟨g,0,none⟩ k).setCell ⟨g,1,none⟩ e).setCell ⟨g,2,none⟩ v).setCell ⟨g,3,none⟩ b) :=
 step_fin rfl hk hr hf hx hg hg2 ((((h9.set (p:=⟨g,0,none⟩) (.inl (by simp)) _).set (p:=⟨g,1,none⟩) (.inl (by simp)) _).set (p:=⟨g,2,none⟩) (.inl (by simp)) _).set (p:=⟨g,3,none⟩) (.inl (by simp)) _)
   (heap_set_other (heap_set_other (heap_set_other (heap_set_other ho (by simpa using hxg)) (by simpa using hxg)) (by simpa using hxg)) (by simpa using hxg))
theorem ChkAt.dr {w:World} {x:Nat} {c:ChkD} (h:ChkAt w x c) (n:Nat):ChkAt (w.drewN n) x c:=h
theorem moves4_chk (w:World) (x:Nat) (c:ChkD) (h:ChkAt w x c) :
   Calls Tryz.prog 277 #[ptr x,.int .i64 4] w (fun e w'=>e=.returned (.agg #[.int .i64 3,.int .i64 0,.int .i64 0,.bool true])∧ChkAt w' x { c with state:=4 }∧Kept [x] w w'):=moves_chk w x c 4 h
theorem movesN_chk (w:World) (x:Nat) (c:ChkD) (s:Int) (h:ChkAt w x c) (hs:s≠4) :
   Calls Tryz.prog 277 #[ptr x,.int .i64 s] w (fun e w'=>e=.returned (.agg #[.int .i64 2,.int .i64 0,.int .i64 0,.bool true])∧ChkAt w' x { c with state:=s }∧Kept [x] w w'):=by
 have h1:=moves_chk w x c s h
 rw [if_neg hs] at h1
 exact h1
theorem failsN_chk (w:World) (x:Nat) (c:ChkD) (s:Int) (h:ChkAt w x c) :
   Calls Tryz.prog 276 #[ptr x,.int .i64 s] w (fun e w'=>e=.returned (.agg #[.int .i64 4,.int .i64 s,.int .i64 0,.bool true])∧ChkAt w' x { c with state:=5 }∧Kept [x] w w'):=fails_chk w x c s h
theorem first_chk (w:World) (x p:Nat) (th:Int) (c:ChkD) (m:MemD) (L:Nat) (F:List Nat) (h:ChkAt w x c) (hr:RepM w p m L F) (hx:x ∉ F) (hok:ChkOk c m.ring) (h0:c.state=0) (hL:L≤1073741824) :
   Calls Tryz.prog 274 #[ptr x,ptr p,.int .i64 th] w (StepOf x p L F (fun w'=>ChkAt w' x (chkStep m c).2) (chkStep m c).1 m w):=by
 obtain ⟨size,from_,reads,last,state,start,seen,at_,word⟩:=c
 obtain ⟨k1,k2,k3,k4,-,-,-,-,-,-,-,-⟩:=hok
 simp only at k1 k2 k3 k4 h0
 subst k1 h0
 have hm:=hr.ok
 have hn:=hm.new
 have hFl:=hr.lt
 have hlt:=heap_lt h
 have H:=kH h
 have HR:=kH hr
 have HFL:=kH hFl
 have hxF:=hx
 have HI:=kH (⟨k2,k3,hn⟩:0≤from_∧I64 from_∧I64 m.newest)
 unfold I64 at k3 hn
 clear h hr hx hFl hm
 obtain ⟨r0,r1,r2,r3,r4,r5,r6,r7,rfl⟩:=eight k4.1
 clear k4
 have hstep:chkStep m ⟨m.ring,from_,[r0,r1,r2,r3,r4,r5,r6,r7],last,0,start,seen,at_,word⟩ =
     (if [r0,r1,r2,r3,r4,r5,r6,r7]=zero8∨m.newest≤from_ then (doneA 0,⟨m.ring,from_,[r0,r1,r2,r3,r4,r5,r6,r7],last,4,start,m.newest,at_,word⟩)
     else if farC ⟨m.ring,from_,[r0,r1,r2,r3,r4,r5,r6,r7],last,0,start,seen,at_,word⟩ m.newest=true then (failA 4,⟨m.ring,from_,[r0,r1,r2,r3,r4,r5,r6,r7],last,5,start,m.newest,at_,word⟩)
     else (moved,⟨m.ring,from_,[r0,r1,r2,r3,r4,r5,r6,r7],last,1,start,m.newest,from_+1,word⟩)):=rfl
 generalize chkStep m ⟨m.ring,from_,[r0,r1,r2,r3,r4,r5,r6,r7],last,0,start,seen,at_,word⟩=R at hstep ⊢
 have HSTEP:=kH hstep
 clear hstep
 unfold ptr
 go_enter Tryz.func274,Tryz.ntmps274
 go_wp2_with fail
 refine (Load_newest th (HR.out.kept ((Kept.refl [] w).alloc _) (by simp)) hL).mono ?_
 rintro e2 w2 ⟨rfl,F2,hr2,hk2,hf2⟩
 have hg2F:w.heap.size ∉ F2:=fresh_not hf2 (fun h=>by have:=HFL.out _ h;omega) (by simp)
 have hx2F:x ∉ F2:=fresh_not hf2 hxF (by simp;omega)
 have hz2:=hk2.size
 simp only [World.size_alloc] at hz2
 have h2:=hk2.heap (heap_old_at H.out) hxF
 have hans2:=hk2.heap (heap_new_at (w:=w) (o:=ans0) rfl) (fun h=>by have:=HFL.out _ h;omega)
 have hK02:Kept (x::F) w w2:=((Kept.refl _ w).alloc _).trans hk2 (fun y hy=>.inl (List.mem_cons_of_mem _ hy))
 have hF02:Fresh w.heap.size F F2:=fun y hy=>(hf2 y hy).elim .inl (fun h=>.inr (by simp at h;omega))
 have hxs:x≠w.heap.size:=by omega
 have FIN:=kH (fun (a:AnsD) (o:Obj) (W9:World) (h9:Kept [x,w.heap.size] w2 W9) (ho:W9.heap[x]?=some o)=>step_fin4 hK02 hr2 hF02 hx2F (Nat.le_refl _) hg2F hxs a o h9 ho)
 have h3:ChkAt (w2.setCell ⟨x,13,none⟩ (.int .i64 m.newest)) x ⟨m.ring,from_,[r0,r1,r2,r3,r4,r5,r6,r7],last,0,start,m.newest,at_,word⟩:=heap_set (i:=13) h2
 have hcc:=fun j=>cell_of_row w2 x j _ _ _ h2
 have d13:=hcc 13
 have hf13:=frozen_of_row w2 x 13 _ _ h2
 have hlt2:=heap_lt h2
 have HANS3:=kH (heap_set_other (q:=⟨x,13,none⟩) (v:=.int .i64 m.newest) hans2 (by simp;omega))
 have HK3:=kH ((Kept.refl [x,w.heap.size] w2).set (p:=⟨x,13,none⟩) (.inl (by simp)) (.int .i64 m.newest))
 have H3:=kH h3
 clear hcc h2 hans2 hK02 hF02 hr2 hk2 hf2 hg2F hx2F h3
 go_wp2_with fail
 generalize w2.setCell ⟨x,13,none⟩ (.int .i64 m.newest)=w3 at *
 have hcc:=fun j=>cell_of_row w3 x j _ _ _ H3.out
 have e0:=hcc 0
 have e1:=hcc 1
 have e2:=hcc 2
 have e3:=hcc 3
 have e4:=hcc 4
 have e5:=hcc 5
 have e6:=hcc 6
 have e7:=hcc 7
 have e8:=hcc 8
 have e9:=hcc 9
 have e13:=hcc 13
 have e14:=hcc 14
 have e14f:=frozen_of_row w3 x 14 _ _ H3.out
 simp only [chkA,gA,gZ,gS] at e0 e1 e2 e3 e4 e5 e6 e7 e8 e9 e13 e14
 clear hcc d13 hf13
 by_cases hz:[r0,r1,r2,r3,r4,r5,r6,r7]=zero8
 · have hq:eq8 [r0,r1,r2,r3,r4,r5,r6,r7] [0,0,0,0,0,0,0,0]=true:=decide_eq_true hz
   have HZ:=kH hz
   clear hz
   go_quiet (fail)
   go_wp2_with fail
   refine (moves4_chk _ x _ (H3.out.dr _)).mono ?_
   rintro e w4 ⟨rfl,h4,hk4⟩
   have hans4:=hk4.heap (show (w3.drewN _).heap[w.heap.size]?=_ from HANS3.out) (by simp;omega)
   obtain ⟨⟨b0,b1,b2,b3⟩,⟨j0,j1,j2,j3⟩⟩:=box4a hans4
   have H4:=kH h4
   have HANS4:=kH hans4
   have HK4:=kH ((HK3.out.drewN nq).then (hk4.mono (fun y hy=>.inl (by simp at hy;simp [hy]))))
   clear h4 hans4 hk4
   go_wp2
   have hR:=HSTEP.out
   rw [if_pos (.inl HZ.out)] at hR
   subst hR
   exact bodyPost_ret (results_cell_row rfl _ _ _ _ _ _ _ rfl (heap_set (heap_set (heap_set (heap_set HANS4.out)))) Tryz.underlying35 rfl infoAns) rfl (FIN.out (doneA 0) _ _ HK4.out H4.out _ _ _ _)
 · have hq:eq8 [r0,r1,r2,r3,r4,r5,r6,r7] [0,0,0,0,0,0,0,0]=false:=decide_eq_false hz
   have HZ:=kH hz
   clear hz
   by_cases hle:m.newest≤from_
   · have HLE:=kH hle
     go_quiet (fail)
     go_wp2_with fail
     refine (moves4_chk _ x _ (H3.out.dr _)).mono ?_
     rintro e w4 ⟨rfl,h4,hk4⟩
     have hans4:=hk4.heap (show (w3.drewN _).heap[w.heap.size]?=_ from HANS3.out) (by simp;omega)
     obtain ⟨⟨b0,b1,b2,b3⟩,⟨j0,j1,j2,j3⟩⟩:=box4a hans4
     have H4:=kH h4
     have HANS4:=kH hans4
     have HK4:=kH ((HK3.out.drewN nq).then (hk4.mono (fun y hy=>.inl (by simp at hy;simp [hy]))))
     clear h4 hans4 hk4
     go_wp2
     have hR:=HSTEP.out
     rw [if_pos (.inr HLE.out)] at hR
     subst hR
     exact bodyPost_ret (results_cell_row rfl _ _ _ _ _ _ _ rfl (heap_set (heap_set (heap_set (heap_set HANS4.out)))) Tryz.underlying35 rfl infoAns) rfl (FIN.out (doneA 0) _ _ HK4.out H4.out _ _ _ _)
   · have HLE:=kH hle
     have HNZ:=kH (show ¬ ([r0,r1,r2,r3,r4,r5,r6,r7]=zero8∨m.newest≤from_) from fun h=>h.elim HZ.out HLE.out)
     have HF:=kH (fun W (hW:ChkAt W x _)=>far_chk W x ⟨m.ring,from_,[r0,r1,r2,r3,r4,r5,r6,r7],last,0,start,m.newest,at_,word⟩ m.newest hW ⟨HI.out.1,HI.out.2.1⟩ HI.out.2.2)
     go_quiet (fail)
     go_wp2_with fail
     refine (HF.out _ (H3.out.dr _)).mono ?_
     rintro e w4 ⟨rfl,hb4⟩
     have hK4:Kept [x,w.heap.size] w2 w4:=(HK3.out.drewN nq).trans (Kept.of_below hb4 []) (fun _ h=>nomatch h)
     have h4:ChkAt w4 x _:=(hb4.block x (heap_lt H3.out)).trans (H3.out.dr nq)
     have hans4:=(hb4.block w.heap.size (heap_lt HANS3.out)).trans (show (w3.drewN nq).heap[w.heap.size]?=_ from HANS3.out)
     have H4:=kH h4
     have HANS4:=kH hans4
     have HK4:=kH hK4
     clear hb4 hK4 h4 hans4
     by_cases hf:farC ⟨m.ring,from_,[r0,r1,r2,r3,r4,r5,r6,r7],last,0,start,m.newest,at_,word⟩ m.newest=true
     · rw [hf]
       have HFF:=kH (show farC ⟨m.ring,from_,[r0,r1,r2,r3,r4,r5,r6,r7],last,0,start,seen,at_,word⟩ m.newest=true from hf)
       clear hf
       go_wp2_with fail
       refine (failsN_chk _ x _ 4 H4.out).mono ?_
       rintro e w5 ⟨rfl,h5,hk5⟩
       have hans5:=hk5.heap HANS4.out (by simp;omega)
       obtain ⟨⟨b0,b1,b2,b3⟩,⟨j0,j1,j2,j3⟩⟩:=box4a hans5
       have H5:=kH h5
       have HANS5:=kH hans5
       have HK5:=kH (HK4.out.then (hk5.mono (fun y hy=>.inl (by simp at hy;simp [hy]))))
       clear h5 hans5 hk5
       go_wp2
       have hR:=HSTEP.out
       rw [if_neg HNZ.out,if_pos HFF.out] at hR
       subst hR
       exact bodyPost_ret (results_cell_row rfl _ _ _ _ _ _ _ rfl (heap_set (heap_set (heap_set (heap_set HANS5.out)))) Tryz.underlying35 rfl infoAns) rfl (FIN.out (failA 4) _ _ HK5.out H5.out _ _ _ _)
     · have hff:farC ⟨m.ring,from_,[r0,r1,r2,r3,r4,r5,r6,r7],last,0,start,m.newest,at_,word⟩ m.newest=false:=by simpa using hf
       rw [hff]
       have HFF:=kH (show ¬ farC ⟨m.ring,from_,[r0,r1,r2,r3,r4,r5,r6,r7],last,0,start,seen,at_,word⟩ m.newest=true from hf)
       clear hf hff
       have hcc:=fun j=>cell_of_row w4 x j _ _ _ H4.out
       have e1:=hcc 1
       have e14:=hcc 14
       have e14f:=frozen_of_row w4 x 14 _ _ H4.out
       simp only [chkA,gA,gZ,gS] at e1 e14
       clear hcc
       go_wp2_with fail
       refine (movesN_chk _ x ⟨m.ring,from_,[r0,r1,r2,r3,r4,r5,r6,r7],last,0,start,m.newest,from_+1,word⟩ 1 (heap_set (i:=14) H4.out) (by decide)).mono ?_
       rintro e w5 ⟨rfl,h5,hk5⟩
       have hans5:=hk5.heap (heap_set_other (q:=⟨x,14,none⟩) (v:=.int .i64 (from_+1)) HANS4.out (by simp;omega)) (by simp;omega)
       obtain ⟨⟨b0,b1,b2,b3⟩,⟨j0,j1,j2,j3⟩⟩:=box4a hans5
       have H5:=kH h5
       have HANS5:=kH hans5
       have HK5:=kH ((HK4.out.set (p:=⟨x,14,none⟩) (.inl (by simp)) (.int .i64 (from_+1))).then (hk5.mono (fun y hy=>.inl (by simp at hy;simp [hy]))))
       clear h5 hans5 hk5
       go_wp2
       have hR:=HSTEP.out
       rw [if_neg HNZ.out,if_neg HFF.out] at hR
       subst hR
       exact bodyPost_ret (results_cell_row rfl _ _ _ _ _ _ _ rfl (heap_set (heap_set (heap_set (heap_set HANS5.out)))) Tryz.underlying35 rfl infoAns) rfl (FIN.out moved _ _ HK5.out H5.out _ _ _ _)
end
end Go.Proofs.YtgfogfciobmmpaaGreatDoor
