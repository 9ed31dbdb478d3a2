/- A part of the proof of the law TopTells: ChnMachC18c ChnMachC18d ChnMachC18e Table Table2 List Log Log2. -/
import Derived.Test.YtgfogfciobmmpaaGreatDoorPAp
import Derived.Laws.CopyOwn
import Derived.Deep.RegionLaw
import Derived.Deep.AppendLies
import Derived.BigRegion
set_option linter.unusedSimpArgs false
set_option linter.unusedVariables false
set_option maxRecDepth 100000
set_option maxHeartbeats 8000000
namespace Go.Proofs.YtgfogfciobmmpaaGreatDoor
namespace Chn
open Go.RowKit
theorem goes1_step (w:World) (p:Nat) (base most:Int) (nx:Value) (B:List Ent) (call k cell n v:Int) (bx bn bt t1 t2 t3 bc bk:Nat) (h:Lies w p base most nx) (hs:Store w p B) (hb:inB base most) (hbx:XB B p bx) (hbn:VB B n bn) (hbt:⟨bt,#[.func (.func 163) #[] #[.pointer (some ⟨t1,0,none⟩),.pointer (some ⟨t2,0,none⟩),.pointer (some ⟨t3,0,none⟩)]],245⟩∈B) (ht1:IB B call t1) (ht2:XB B p t2) (ht3:VB B k t3) (hbc:IB B cell bc) (hbk:VB B k bk) (hn:0≤n∧n≤most) :
   Calls Tryz.prog 192 #[.int .i64 v,.pointer (some ⟨bx,0,none⟩),.pointer (some ⟨bn,0,none⟩),.pointer (some ⟨bt,0,none⟩),.pointer (some ⟨bc,0,none⟩),.pointer (some ⟨bk,0,none⟩)] w (StepPost p base most B (goK base most (.goes call k cell n) v) w):=by
 obtain ⟨⟨c0,c1,c2⟩,f2,hlt⟩:=lies3 h
 have HP:=kH h
 have HB:=kH hb
 obtain ⟨hb0,hb1,hm0,hm1⟩:=hb
 obtain ⟨bx0,bxl,bxn⟩:=box_in hs hbx
 have Hbx:=kH hbx
 obtain ⟨bn0,bnl,bnn⟩:=box_in hs hbn
 have Hbn:=kH hbn
 obtain ⟨bt0,btl,btn⟩:=box_in hs hbt
 have Hbt:=kH hbt
 obtain ⟨t10,t1l,t1n⟩:=box_in hs ht1
 have Ht1:=kH ht1
 obtain ⟨t20,t2l,t2n⟩:=box_in hs ht2
 have Ht2:=kH ht2
 obtain ⟨t30,t3l,t3n⟩:=box_in hs ht3
 have Ht3:=kH ht3
 obtain ⟨bc0,bcl,bcn⟩:=box_in hs hbc
 have Hbc:=kH hbc
 obtain ⟨bk0,bkl,bkn⟩:=box_in hs hbk
 have Hbk:=kH hbk
 have HS:=kH hs
 clear h hs hbx hbn hbt ht1 ht2 ht3 hbc hbk
 obtain ⟨hn0,hn1⟩:=hn
 by_cases hl:leadsP most v
 · by_cases hne:n=most
   · rw [show goK base most (.goes call k cell n) v=thenK base call k ⟨cell,v,false,0,false⟩ from if_neg (fun h=>h.2 hne)]
     have hne':(n == most)=true:=by simpa using hne
     clear hne
     go_enter Tryz.func192,Tryz.ntmps192
     go_wp2_with fail
     go_quiet ((go_at_call 187;exact just_drew (fun W hW=>leads_t (p:=p) (base:=base) (most:=most) (nx:=nx) (lies_at (kO (kO HP.out)) hW) hl) _))
     go_wp2_with fail
     refine (then_step _ p base most nx B call k cell v false 0 false t1 t2 t3 (by first | exact HP.out | exact kO HP.out | exact kO (kO HP.out) | exact kO (kO (kO HP.out)) | exact kO (kO (kO (kO HP.out))) | exact kO (kO (kO (kO (kO HP.out)))) | exact kO (kO (kO (kO (kO (kO HP.out)))))) (HS.out.keep (by repeat (first | exact grown_refl _ _ | refine grown_alloc ?_ _ | refine grown_drewN ?_ _ | refine grown_drew ?_))) HB.out Ht1.out Ht2.out Ht3.out (fun h=>by cases h)).mono ?_
     rintro e w1 ⟨rfl,post⟩
     have hg1:=box_grown post.1 (show (World.heap _)[w.heap.size+1]?=some (.cells #[.int .i64 0,.int .i64 0,.int .i64 0,.int .i64 0] 109 (0,0)) from heap_new (by simp)) (by omega)
     obtain ⟨⟨d0,d1,d2,d3⟩,⟨g0,g1,g2,g3⟩,hz⟩:=box4 hg1
     have POST:=kH post
     clear post
     generalize thenK base call k ⟨cell,v,false,0,false⟩=r at *
     obtain ⟨⟨r0,r1,r2,r3⟩,kk⟩:=r
     simp only [WantS.val]
     go_wp2
     exact bodyPost_ret (results_cell_row rfl _ _ _ _ _ _ _ rfl (heap_set (heap_set (heap_set (heap_set hg1)))) Tryz.underlying109 rfl infoWant) rfl (close_step (g:=w.heap.size+1) (M:=[]) (by repeat (first | exact grown_refl _ _ | refine grown_alloc ?_ _ | refine grown_drewN ?_ _ | refine grown_drew ?_)) hlt (by omega) (by simp) (fun x hx=>nomatch hx) ⟨rfl,POST.out⟩ rfl)
   · rw [show goK base most (.goes call k cell n) v=(readS (base+keyI v),.goes1 call k cell n v) from if_pos ⟨hl,hne⟩]
     have hne':(n == most)=false:=by simpa using hne
     go_enter Tryz.func192,Tryz.ntmps192
     go_wp2_with fail
     go_quiet ((go_at_call 187;exact just_drew (fun W hW=>leads_t (p:=p) (base:=base) (most:=most) (nx:=nx) (lies_at (kO (kO HP.out)) hW) hl) _))
     go_wp2_with fail
     refine wp_region_still_tail 4 (by kernel_rfl) (by kernel_rfl) ?_
     change wpStill _ _ (World.drew _) (fun a'=>wpList _ _ _ _ a' (World.drew _)) _ _
     simp only [List.take_succ_cons,List.take_zero,List.drop_succ_cons,List.drop_zero]
     repeat still_step
     still_call ((key_calls _ (v) (lead0 hl) (lead1 hl hm1)).mono fun _ _ h=>⟨h.1,h.2.symm⟩)
     repeat still_step
     refine wpStill_nil ?_
     go_wp2_with fail
     refine (read_step _ p base most nx ([⟨w.heap.size,#[.int .i64 v],2⟩]++B) (.goes1 call k cell n v) (keyI v) 193 (#[]) (#[.pointer (some ⟨bk,0,none⟩),.pointer (some ⟨bt,0,none⟩),.pointer (some ⟨bc,0,none⟩),.pointer (some ⟨w.heap.size,0,none⟩),.pointer (some ⟨bx,0,none⟩),.pointer (some ⟨bn,0,none⟩)]) (by first | exact HP.out | exact kO HP.out | exact kO (kO HP.out) | exact kO (kO (kO HP.out)) | exact kO (kO (kO (kO HP.out))) | exact kO (kO (kO (kO (kO HP.out)))) | exact kO (kO (kO (kO (kO (kO HP.out)))))) HB.out (keyR hl hm1) ⟨_,_,_,_,_,_,_,(List.mem_append_right _ Hbk.out),⟨_,_,_,(List.mem_append_right _ Ht1.out),(List.mem_append_right _ Ht2.out),(List.mem_append_right _ Ht3.out),rfl⟩,(List.mem_append_right _ Hbt.out),(List.mem_append_right _ Hbc.out),(List.mem_append_left _ List.mem_cons_self),(List.mem_append_right _ Hbx.out),(List.mem_append_right _ Hbn.out),rfl⟩).mono ?_
     rintro e w1 ⟨rfl,post⟩
     have hg1:=box_grown post.1 (show (World.heap _)[w.heap.size+1]?=some (.cells #[.int .i64 0,.int .i64 0,.int .i64 0,.int .i64 0] 109 (0,0)) from heap_new (by simp)) (by omega)
     obtain ⟨⟨d0,d1,d2,d3⟩,⟨g0,g1,g2,g3⟩,hz⟩:=box4 hg1
     simp only [WantS.val]
     go_wp2
     exact bodyPost_ret (results_cell_row rfl _ _ _ _ _ _ _ rfl (heap_set (heap_set (heap_set (heap_set hg1)))) Tryz.underlying109 rfl infoWant) rfl (close_step (g:=w.heap.size+1) (M:=[⟨w.heap.size,#[.int .i64 v],2⟩]) (by repeat (first | exact grown_refl _ _ | refine grown_alloc ?_ _ | refine grown_drewN ?_ _ | refine grown_drew ?_)) hlt (by omega) (by simp) (by intro x hx;simp only [List.mem_cons,List.not_mem_nil,or_false] at hx;rcases hx with rfl <;> first | exact ⟨by simp,by simp,heap_new (by simp)⟩ | exact ⟨by simp,by simp,kO (heap_new (by simp))⟩) ⟨rfl,post⟩ rfl)
 · rw [show goK base most (.goes call k cell n) v=thenK base call k ⟨cell,v,false,0,false⟩ from if_neg (fun h=>hl h.1)]
   go_enter Tryz.func192,Tryz.ntmps192
   go_wp2_with fail
   go_quiet ((go_at_call 187;exact just_drew (fun W hW=>leads_f (p:=p) (base:=base) (most:=most) (nx:=nx) (lies_at (kO (kO HP.out)) hW) hl) _))
   go_wp2_with fail
   refine (then_step _ p base most nx B call k cell v false 0 false t1 t2 t3 (by first | exact HP.out | exact kO HP.out | exact kO (kO HP.out) | exact kO (kO (kO HP.out)) | exact kO (kO (kO (kO HP.out))) | exact kO (kO (kO (kO (kO HP.out)))) | exact kO (kO (kO (kO (kO (kO HP.out)))))) (HS.out.keep (by repeat (first | exact grown_refl _ _ | refine grown_alloc ?_ _ | refine grown_drewN ?_ _ | refine grown_drew ?_))) HB.out Ht1.out Ht2.out Ht3.out (fun h=>by cases h)).mono ?_
   rintro e w1 ⟨rfl,post⟩
   have hg1:=box_grown post.1 (show (World.heap _)[w.heap.size+1]?=some (.cells #[.int .i64 0,.int .i64 0,.int .i64 0,.int .i64 0] 109 (0,0)) from heap_new (by simp)) (by omega)
   obtain ⟨⟨d0,d1,d2,d3⟩,⟨g0,g1,g2,g3⟩,hz⟩:=box4 hg1
   have POST:=kH post
   clear post
   generalize thenK base call k ⟨cell,v,false,0,false⟩=r at *
   obtain ⟨⟨r0,r1,r2,r3⟩,kk⟩:=r
   simp only [WantS.val]
   go_wp2
   exact bodyPost_ret (results_cell_row rfl _ _ _ _ _ _ _ rfl (heap_set (heap_set (heap_set (heap_set hg1)))) Tryz.underlying109 rfl infoWant) rfl (close_step (g:=w.heap.size+1) (M:=[]) (by repeat (first | exact grown_refl _ _ | refine grown_alloc ?_ _ | refine grown_drewN ?_ _ | refine grown_drew ?_)) hlt (by omega) (by simp) (fun x hx=>nomatch hx) ⟨rfl,POST.out⟩ rfl)
theorem goes11_step (w:World) (p:Nat) (base most:Int) (nx:Value) (B:List Ent) (call k cell n q v:Int) (bk bt t1 t2 t3 bc bp bx bn:Nat) (h:Lies w p base most nx) (hs:Store w p B) (hb:inB base most) (hbk:VB B k bk) (hbt:⟨bt,#[.func (.func 163) #[] #[.pointer (some ⟨t1,0,none⟩),.pointer (some ⟨t2,0,none⟩),.pointer (some ⟨t3,0,none⟩)]],245⟩∈B) (ht1:IB B call t1) (ht2:XB B p t2) (ht3:VB B k t3) (hbc:IB B cell bc) (hbp:VB B q bp) (hbx:XB B p bx) (hbn:VB B n bn) (hn:0≤n∧n < most) (hl:leadsP most q) :
   Calls Tryz.prog 193 #[.int .i64 v,.pointer (some ⟨bk,0,none⟩),.pointer (some ⟨bt,0,none⟩),.pointer (some ⟨bc,0,none⟩),.pointer (some ⟨bp,0,none⟩),.pointer (some ⟨bx,0,none⟩),.pointer (some ⟨bn,0,none⟩)] w (StepPost p base most B (goK base most (.goes1 call k cell n q) v) w):=by
 obtain ⟨⟨c0,c1,c2⟩,f2,hlt⟩:=lies3 h
 have HP:=kH h
 have HB:=kH hb
 obtain ⟨hb0,hb1,hm0,hm1⟩:=hb
 obtain ⟨bk0,bkl,bkn⟩:=box_in hs hbk
 have Hbk:=kH hbk
 obtain ⟨bt0,btl,btn⟩:=box_in hs hbt
 have Hbt:=kH hbt
 obtain ⟨t10,t1l,t1n⟩:=box_in hs ht1
 have Ht1:=kH ht1
 obtain ⟨t20,t2l,t2n⟩:=box_in hs ht2
 have Ht2:=kH ht2
 obtain ⟨t30,t3l,t3n⟩:=box_in hs ht3
 have Ht3:=kH ht3
 obtain ⟨bc0,bcl,bcn⟩:=box_in hs hbc
 have Hbc:=kH hbc
 obtain ⟨bp0,bpl,bpn⟩:=box_in hs hbp
 have Hbp:=kH hbp
 obtain ⟨bx0,bxl,bxn⟩:=box_in hs hbx
 have Hbx:=kH hbx
 obtain ⟨bn0,bnl,bnn⟩:=box_in hs hbn
 have Hbn:=kH hbn
 have HS:=kH hs
 clear h hs hbk hbt ht1 ht2 ht3 hbc hbp hbx hbn
 obtain ⟨hn0,hn1⟩:=hn
 by_cases hk:k≤v
 · rw [show goK base most (.goes1 call k cell n q) v=thenK base call k ⟨cell,q,true,v,v == k⟩ from if_pos hk]
   go_enter Tryz.func193,Tryz.ntmps193
   go_wp2_with fail
   refine (then_step _ p base most nx B call k cell q true v (v == k) t1 t2 t3 (by first | exact HP.out | exact kO HP.out | exact kO (kO HP.out) | exact kO (kO (kO HP.out)) | exact kO (kO (kO (kO HP.out))) | exact kO (kO (kO (kO (kO HP.out)))) | exact kO (kO (kO (kO (kO (kO HP.out)))))) (HS.out.keep (by repeat (first | exact grown_refl _ _ | refine grown_alloc ?_ _ | refine grown_drewN ?_ _ | refine grown_drew ?_))) HB.out Ht1.out Ht2.out Ht3.out (fun _=>hl)).mono ?_
   rintro e w1 ⟨rfl,post⟩
   have hg1:=box_grown post.1 (show (World.heap _)[w.heap.size]?=some (.cells #[.int .i64 0,.int .i64 0,.int .i64 0,.int .i64 0] 109 (0,0)) from heap_new (by simp)) (by omega)
   obtain ⟨⟨d0,d1,d2,d3⟩,⟨g0,g1,g2,g3⟩,hz⟩:=box4 hg1
   have POST:=kH post
   clear post
   generalize thenK base call k ⟨cell,q,true,v,v == k⟩=r at *
   obtain ⟨⟨r0,r1,r2,r3⟩,kk⟩:=r
   simp only [WantS.val]
   go_wp2
   exact bodyPost_ret (results_cell_row rfl _ _ _ _ _ _ _ rfl (heap_set (heap_set (heap_set (heap_set hg1)))) Tryz.underlying109 rfl infoWant) rfl (close_step (g:=w.heap.size) (M:=[]) (by repeat (first | exact grown_refl _ _ | refine grown_alloc ?_ _ | refine grown_drewN ?_ _ | refine grown_drew ?_)) hlt (by omega) (by simp) (fun x hx=>nomatch hx) ⟨rfl,POST.out⟩ rfl)
 · rw [show goK base most (.goes1 call k cell n q) v=(readS (base+linkI q),.goes call k (linkI q) (n+1)) from if_neg hk]
   go_enter Tryz.func193,Tryz.ntmps193
   go_wp2_with fail
   refine wp_region_still_tail 7 (by kernel_rfl) (by kernel_rfl) ?_
   change wpStill _ _ (World.drew _) (fun a'=>wpList _ _ _ _ a' (World.drew _)) _ _
   simp only [List.take_succ_cons,List.take_zero,List.drop_succ_cons,List.drop_zero]
   repeat still_step
   still_call ((link_calls _ (q) (lead0 hl) (lead1 hl hm1)).mono fun _ _ h=>⟨h.1,h.2.symm⟩)
   repeat still_step
   refine wpStill_nil ?_
   go_wp2_with fail
   refine (goes_step _ p base most nx B call k (linkI q) (n+1) 163 #[] #[.pointer (some ⟨t1,0,none⟩),.pointer (some ⟨t2,0,none⟩),.pointer (some ⟨t3,0,none⟩)] (by first | exact HP.out | exact kO HP.out | exact kO (kO HP.out) | exact kO (kO (kO HP.out)) | exact kO (kO (kO (kO HP.out))) | exact kO (kO (kO (kO (kO HP.out)))) | exact kO (kO (kO (kO (kO (kO HP.out)))))) HB.out (linkC hl hm1) (by omega) ⟨_,_,_,Ht1.out,Ht2.out,Ht3.out,rfl⟩).mono ?_
   rintro e w1 ⟨rfl,post⟩
   have hg1:=box_grown post.1 (show (World.heap _)[w.heap.size]?=some (.cells #[.int .i64 0,.int .i64 0,.int .i64 0,.int .i64 0] 109 (0,0)) from heap_new (by simp)) (by omega)
   obtain ⟨⟨d0,d1,d2,d3⟩,⟨g0,g1,g2,g3⟩,hz⟩:=box4 hg1
   simp only [WantS.val]
   go_wp2
   exact bodyPost_ret (results_cell_row rfl _ _ _ _ _ _ _ rfl (heap_set (heap_set (heap_set (heap_set hg1)))) Tryz.underlying109 rfl infoWant) rfl (close_step (g:=w.heap.size) (M:=[]) (by repeat (first | exact grown_refl _ _ | refine grown_alloc ?_ _ | refine grown_drewN ?_ _ | refine grown_drew ?_)) hlt (by omega) (by simp) (fun x hx=>nomatch hx) ⟨rfl,post⟩ rfl)
end Chn
namespace Chn
open Go.RowKit
theorem lays_step (w:World) (p:Nat) (base most:Int) (nx:Value) (B:List Ent) (k node:Int) (d:WayD) (bx bk:Nat) (h:Lies w p base most nx) (hs:Store w p B) (hb:inB base most) (hbx:XB B p bx) (hbk:VB B k bk) (bw:Nat) (hbw:WB B d bw) (hl:leadsP most node) :
   Calls Tryz.prog 194 #[.int .i64 node,.pointer (some ⟨bx,0,none⟩),.pointer (some ⟨bk,0,none⟩),.pointer (some ⟨bw,0,none⟩)] w (StepPost p base most B (laysK base k d node) w):=by
 obtain ⟨⟨c0,c1,c2⟩,f2,hlt⟩:=lies3 h
 have HP:=kH h
 have HB:=kH hb
 obtain ⟨hb0,hb1,hm0,hm1⟩:=hb
 obtain ⟨bx0,bxl,bxn⟩:=box_in hs hbx
 have Hbx:=kH hbx
 obtain ⟨bk0,bkl,bkn⟩:=box_in hs hbk
 have Hbk:=kH hbk
 have HS:=kH hs
 clear h hs hbx hbk
 have Hbw:=kH hbw
 clear hbw
 rw [show laysK base k d node=(putS (base+keyI node) k,.put (.key k d node)) from rfl]
 go_enter Tryz.func194,Tryz.ntmps194
 go_wp2_with fail
 refine wp_region_still_tail 5 (by kernel_rfl) (by kernel_rfl) ?_
 change wpStill _ _ (World.drew _) (fun a'=>wpList _ _ _ _ a' (World.drew _)) _ _
 simp only [List.take_succ_cons,List.take_zero,List.drop_succ_cons,List.drop_zero]
 repeat still_step
 still_call ((key_calls _ (node) (lead0 hl) (lead1 hl hm1)).mono fun _ _ h=>⟨h.1,h.2.symm⟩)
 repeat still_step
 refine wpStill_nil ?_
 go_wp2_with fail
 refine (write_step _ p base most nx ([⟨w.heap.size,#[.int .i64 node],2⟩]++B) (.key k d node) (keyI node) (k) 196 #[] (#[.pointer (some ⟨bx,0,none⟩),.pointer (some ⟨w.heap.size,0,none⟩),.pointer (some ⟨bw,0,none⟩)]) (by first | exact HP.out | exact kO HP.out | exact kO (kO HP.out) | exact kO (kO (kO HP.out)) | exact kO (kO (kO (kO HP.out))) | exact kO (kO (kO (kO (kO HP.out)))) | exact kO (kO (kO (kO (kO (kO HP.out)))))) HB.out (keyR hl hm1) ⟨_,_,_,(List.mem_append_right _ Hbx.out),(List.mem_append_left _ List.mem_cons_self),(List.mem_append_right _ Hbw.out),rfl⟩).mono ?_
 rintro e w1 ⟨rfl,post⟩
 have hg1:=box_grown post.1 (show (World.heap _)[w.heap.size+1]?=some (.cells #[.int .i64 0,.int .i64 0,.int .i64 0,.int .i64 0] 109 (0,0)) from heap_new (by simp)) (by omega)
 obtain ⟨⟨d0,d1,d2,d3⟩,⟨g0,g1,g2,g3⟩,hz⟩:=box4 hg1
 simp only [WantS.val]
 go_wp2
 exact bodyPost_ret (results_cell_row rfl _ _ _ _ _ _ _ rfl (heap_set (heap_set (heap_set (heap_set hg1)))) Tryz.underlying109 rfl infoWant) rfl (close_step (g:=w.heap.size+1) (M:=[⟨w.heap.size,#[.int .i64 node],2⟩]) (by repeat (first | exact grown_refl _ _ | refine grown_alloc ?_ _ | refine grown_drewN ?_ _ | refine grown_drew ?_)) hlt (by omega) (by simp) (by intro x hx;simp only [List.mem_cons,List.not_mem_nil,or_false] at hx;rcases hx with rfl <;> first | exact ⟨by simp,by simp,heap_new (by simp)⟩ | exact ⟨by simp,by simp,kO (heap_new (by simp))⟩) ⟨rfl,post⟩ rfl)
theorem addF_step (w:World) (p:Nat) (base most:Int) (nx:Value) (B:List Ent) (k v:Int) (d:WayD) (bx bl:Nat) (h:Lies w p base most nx) (hs:Store w p B) (hb:inB base most) (hbx:XB B p bx) (hbl:LaysB B p k d bl) :
   Calls Tryz.prog 199 #[.int .i64 v,.pointer (some ⟨bx,0,none⟩),.pointer (some ⟨bl,0,none⟩)] w (StepPost p base most B (goK base most (.addF k d) v) w):=by
 obtain ⟨⟨c0,c1,c2⟩,f2,hlt⟩:=lies3 h
 have HP:=kH h
 have HB:=kH hb
 obtain ⟨hb0,hb1,hm0,hm1⟩:=hb
 obtain ⟨bx0,bxl,bxn⟩:=box_in hs hbx
 have Hbx:=kH hbx
 have HS:=kH hs
 clear h hs hbx
 have Hbl:=kH hbl
 clear hbl
 by_cases hl:leadsP most v
 · rw [show goK base most (.addF k d) v=(readS (base+linkI v),.addQ k d v) from if_pos hl]
   go_enter Tryz.func199,Tryz.ntmps199
   go_wp2_with fail
   refine (leads_t (by first | exact HP.out | exact kO HP.out | exact kO (kO HP.out) | exact kO (kO (kO HP.out)) | exact kO (kO (kO (kO HP.out))) | exact kO (kO (kO (kO (kO HP.out)))) | exact kO (kO (kO (kO (kO (kO HP.out)))))) hl).mono ?_
   rintro e w' ⟨rfl,rfl⟩
   go_wp2_with fail
   refine wp_region_still_tail 4 (by kernel_rfl) (by kernel_rfl) ?_
   change wpStill _ _ (World.drew _) (fun a'=>wpList _ _ _ _ a' (World.drew _)) _ _
   simp only [List.take_succ_cons,List.take_zero,List.drop_succ_cons,List.drop_zero]
   repeat still_step
   still_call ((link_calls _ (v) (lead0 hl) (lead1 hl hm1)).mono fun _ _ h=>⟨h.1,h.2.symm⟩)
   repeat still_step
   refine wpStill_nil ?_
   go_wp2_with fail
   refine (read_step _ p base most nx ([⟨w.heap.size,#[.int .i64 v],2⟩]++B) (.addQ k d v) (linkI v) 200 (#[]) (#[.pointer (some ⟨bx,0,none⟩),.pointer (some ⟨bl,0,none⟩),.pointer (some ⟨w.heap.size,0,none⟩)]) (by first | exact HP.out | exact kO HP.out | exact kO (kO HP.out) | exact kO (kO (kO HP.out)) | exact kO (kO (kO (kO HP.out))) | exact kO (kO (kO (kO (kO HP.out)))) | exact kO (kO (kO (kO (kO (kO HP.out)))))) HB.out (linkR hl hm1) ⟨_,_,_,(List.mem_append_right _ Hbx.out),Hbl.out.mono (fun e he=>List.mem_append_right _ he),(List.mem_append_left _ List.mem_cons_self),rfl⟩).mono ?_
   rintro e w1 ⟨rfl,post⟩
   have hg1:=box_grown post.1 (show (World.heap _)[w.heap.size+1]?=some (.cells #[.int .i64 0,.int .i64 0,.int .i64 0,.int .i64 0] 109 (0,0)) from heap_new (by simp)) (by omega)
   obtain ⟨⟨d0,d1,d2,d3⟩,⟨g0,g1,g2,g3⟩,hz⟩:=box4 hg1
   simp only [WantS.val]
   go_wp2
   exact bodyPost_ret (results_cell_row rfl _ _ _ _ _ _ _ rfl (heap_set (heap_set (heap_set (heap_set hg1)))) Tryz.underlying109 rfl infoWant) rfl (close_step (g:=w.heap.size+1) (M:=[⟨w.heap.size,#[.int .i64 v],2⟩]) (by repeat (first | exact grown_refl _ _ | refine grown_alloc ?_ _ | refine grown_drewN ?_ _ | refine grown_drew ?_)) hlt (by omega) (by simp) (by intro x hx;simp only [List.mem_cons,List.not_mem_nil,or_false] at hx;rcases hx with rfl <;> first | exact ⟨by simp,by simp,heap_new (by simp)⟩ | exact ⟨by simp,by simp,kO (heap_new (by simp))⟩) ⟨rfl,post⟩ rfl)
 · rw [show goK base most (.addF k d) v=(readS (base+2),.addU k d) from if_neg hl]
   go_enter Tryz.func199,Tryz.ntmps199
   go_wp2_with fail
   refine (leads_f (by first | exact HP.out | exact kO HP.out | exact kO (kO HP.out) | exact kO (kO (kO HP.out)) | exact kO (kO (kO (kO HP.out))) | exact kO (kO (kO (kO (kO HP.out)))) | exact kO (kO (kO (kO (kO (kO HP.out)))))) hl).mono ?_
   rintro e w' ⟨rfl,rfl⟩
   go_wp2_with fail
   refine (read_step _ p base most nx (B) (.addU k d) (2) 202 (#[]) (#[.pointer (some ⟨bx,0,none⟩),.pointer (some ⟨bl,0,none⟩)]) (by first | exact HP.out | exact kO HP.out | exact kO (kO HP.out) | exact kO (kO (kO HP.out)) | exact kO (kO (kO (kO HP.out))) | exact kO (kO (kO (kO (kO HP.out)))) | exact kO (kO (kO (kO (kO (kO HP.out)))))) HB.out (by omega) ⟨_,_,Hbx.out,Hbl.out,rfl⟩).mono ?_
   rintro e w1 ⟨rfl,post⟩
   have hg1:=box_grown post.1 (show (World.heap _)[w.heap.size+1]?=some (.cells #[.int .i64 0,.int .i64 0,.int .i64 0,.int .i64 0] 109 (0,0)) from heap_new (by simp)) (by omega)
   obtain ⟨⟨d0,d1,d2,d3⟩,⟨g0,g1,g2,g3⟩,hz⟩:=box4 hg1
   simp only [WantS.val]
   go_wp2
   exact bodyPost_ret (results_cell_row rfl _ _ _ _ _ _ _ rfl (heap_set (heap_set (heap_set (heap_set hg1)))) Tryz.underlying109 rfl infoWant) rfl (close_step (g:=w.heap.size+1) (M:=[]) (by repeat (first | exact grown_refl _ _ | refine grown_alloc ?_ _ | refine grown_drewN ?_ _ | refine grown_drew ?_)) hlt (by omega) (by simp) (fun x hx=>nomatch hx) ⟨rfl,post⟩ rfl)
theorem addQ_step (w:World) (p:Nat) (base most:Int) (nx:Value) (B:List Ent) (k v f:Int) (d:WayD) (bx bl bf:Nat) (h:Lies w p base most nx) (hs:Store w p B) (hb:inB base most) (hbx:XB B p bx) (hbl:LaysB B p k d bl) (hbf:VB B f bf) :
   Calls Tryz.prog 200 #[.int .i64 v,.pointer (some ⟨bx,0,none⟩),.pointer (some ⟨bl,0,none⟩),.pointer (some ⟨bf,0,none⟩)] w (StepPost p base most B (putS (base+1) v,.put (.lays1 k d f)) w):=by
 obtain ⟨⟨c0,c1,c2⟩,f2,hlt⟩:=lies3 h
 have HP:=kH h
 have HB:=kH hb
 obtain ⟨hb0,hb1,hm0,hm1⟩:=hb
 obtain ⟨bx0,bxl,bxn⟩:=box_in hs hbx
 have Hbx:=kH hbx
 obtain ⟨bf0,bfl,bfn⟩:=box_in hs hbf
 have Hbf:=kH hbf
 have HS:=kH hs
 clear h hs hbx hbf
 have Hbl:=kH hbl
 clear hbl
 go_enter Tryz.func200,Tryz.ntmps200
 go_wp2_with fail
 refine (write_step _ p base most nx (B) (.lays1 k d f) (1) (v) 201 #[] (#[.pointer (some ⟨bl,0,none⟩),.pointer (some ⟨bf,0,none⟩)]) (by first | exact HP.out | exact kO HP.out | exact kO (kO HP.out) | exact kO (kO (kO HP.out)) | exact kO (kO (kO (kO HP.out))) | exact kO (kO (kO (kO (kO HP.out)))) | exact kO (kO (kO (kO (kO (kO HP.out)))))) HB.out (by omega) ⟨_,_,Hbl.out,Hbf.out,rfl⟩).mono ?_
 rintro e w1 ⟨rfl,post⟩
 have hg1:=box_grown post.1 (show (World.heap _)[w.heap.size]?=some (.cells #[.int .i64 0,.int .i64 0,.int .i64 0,.int .i64 0] 109 (0,0)) from heap_new (by simp)) (by omega)
 obtain ⟨⟨d0,d1,d2,d3⟩,⟨g0,g1,g2,g3⟩,hz⟩:=box4 hg1
 simp only [WantS.val]
 go_wp2
 exact bodyPost_ret (results_cell_row rfl _ _ _ _ _ _ _ rfl (heap_set (heap_set (heap_set (heap_set hg1)))) Tryz.underlying109 rfl infoWant) rfl (close_step (g:=w.heap.size) (M:=[]) (by repeat (first | exact grown_refl _ _ | refine grown_alloc ?_ _ | refine grown_drewN ?_ _ | refine grown_drew ?_)) hlt (by omega) (by simp) (fun x hx=>nomatch hx) ⟨rfl,post⟩ rfl)
theorem addU_step (w:World) (p:Nat) (base most:Int) (nx:Value) (B:List Ent) (k v:Int) (d:WayD) (bx bl:Nat) (h:Lies w p base most nx) (hs:Store w p B) (hb:inB base most) (hbx:XB B p bx) (hbl:LaysB B p k d bl) :
   Calls Tryz.prog 202 #[.int .i64 v,.pointer (some ⟨bx,0,none⟩),.pointer (some ⟨bl,0,none⟩)] w (StepPost p base most B (goK base most (.addU k d) v) w):=by
 obtain ⟨⟨c0,c1,c2⟩,f2,hlt⟩:=lies3 h
 have HP:=kH h
 have HB:=kH hb
 obtain ⟨hb0,hb1,hm0,hm1⟩:=hb
 obtain ⟨bx0,bxl,bxn⟩:=box_in hs hbx
 have Hbx:=kH hbx
 have HS:=kH hs
 clear h hs hbx
 have Hbl:=kH hbl
 clear hbl
 rcases (show v < 0∨(0≤v∧most≤v)∨(0≤v∧v < most) from by omega) with hv | ⟨hv,hv2⟩ | ⟨hv,hv2⟩
 · rw [show goK base most (.addU k d) v=endK 0 2 from if_pos (.inl hv)]
   go_enter Tryz.func202,Tryz.ntmps202
   go_wp2_with fail
   go_quiet (fail)
   go_wp2_with fail
   refine (done_step _ p base most nx (B) (0) (2) (by first | exact HP.out | exact kO HP.out | exact kO (kO HP.out) | exact kO (kO (kO HP.out)) | exact kO (kO (kO (kO HP.out))) | exact kO (kO (kO (kO (kO HP.out)))) | exact kO (kO (kO (kO (kO (kO HP.out))))))).mono ?_
   rintro e w1 ⟨rfl,post⟩
   have hg1:=box_grown post.1 (show (World.heap _)[w.heap.size+1]?=some (.cells #[.int .i64 0,.int .i64 0,.int .i64 0,.int .i64 0] 109 (0,0)) from heap_new (by simp)) (by omega)
   obtain ⟨⟨d0,d1,d2,d3⟩,⟨g0,g1,g2,g3⟩,hz⟩:=box4 hg1
   simp only [WantS.val,endK]
   go_wp2
   exact bodyPost_ret (results_cell_row rfl _ _ _ _ _ _ _ rfl (heap_set (heap_set (heap_set (heap_set hg1)))) Tryz.underlying109 rfl infoWant) rfl (close_step (g:=w.heap.size+1) (M:=[]) (by repeat (first | exact grown_refl _ _ | refine grown_alloc ?_ _ | refine grown_drewN ?_ _ | refine grown_drew ?_)) hlt (by omega) (by simp) (fun x hx=>nomatch hx) ⟨rfl,post⟩ rfl)
 · rw [show goK base most (.addU k d) v=endK 0 2 from if_pos (.inr hv2)]
   go_enter Tryz.func202,Tryz.ntmps202
   go_wp2_with fail
   go_quiet (fail)
   go_wp2_with fail
   refine (done_step _ p base most nx (B) (0) (2) (by first | exact HP.out | exact kO HP.out | exact kO (kO HP.out) | exact kO (kO (kO HP.out)) | exact kO (kO (kO (kO HP.out))) | exact kO (kO (kO (kO (kO HP.out)))) | exact kO (kO (kO (kO (kO (kO HP.out))))))).mono ?_
   rintro e w1 ⟨rfl,post⟩
   have hg1:=box_grown post.1 (show (World.heap _)[w.heap.size+1]?=some (.cells #[.int .i64 0,.int .i64 0,.int .i64 0,.int .i64 0] 109 (0,0)) from heap_new (by simp)) (by omega)
   obtain ⟨⟨d0,d1,d2,d3⟩,⟨g0,g1,g2,g3⟩,hz⟩:=box4 hg1
   simp only [WantS.val,endK]
   go_wp2
   exact bodyPost_ret (results_cell_row rfl _ _ _ _ _ _ _ rfl (heap_set (heap_set (heap_set (heap_set hg1)))) Tryz.underlying109 rfl infoWant) rfl (close_step (g:=w.heap.size+1) (M:=[]) (by repeat (first | exact grown_refl _ _ | refine grown_alloc ?_ _ | refine grown_drewN ?_ _ | refine grown_drew ?_)) hlt (by omega) (by simp) (fun x hx=>nomatch hx) ⟨rfl,post⟩ rfl)
 · rw [show goK base most (.addU k d) v=(putS (base+2) (v+1),.put (.lays2 k d v)) from if_neg (by omega)]
   go_enter Tryz.func202,Tryz.ntmps202
   go_wp2_with fail
   go_quiet (fail)
   go_wp2_with fail
   refine (write_step _ p base most nx ([⟨w.heap.size,#[.int .i64 v],2⟩]++B) (.lays2 k d v) (2) (v+1) 203 #[] (#[.pointer (some ⟨bl,0,none⟩),.pointer (some ⟨w.heap.size,0,none⟩)]) (by first | exact HP.out | exact kO HP.out | exact kO (kO HP.out) | exact kO (kO (kO HP.out)) | exact kO (kO (kO (kO HP.out))) | exact kO (kO (kO (kO (kO HP.out)))) | exact kO (kO (kO (kO (kO (kO HP.out)))))) HB.out (by omega) ⟨_,_,Hbl.out.mono (fun e he=>List.mem_append_right _ he),(List.mem_append_left _ List.mem_cons_self),rfl⟩).mono ?_
   rintro e w1 ⟨rfl,post⟩
   have hg1:=box_grown post.1 (show (World.heap _)[w.heap.size+1]?=some (.cells #[.int .i64 0,.int .i64 0,.int .i64 0,.int .i64 0] 109 (0,0)) from heap_new (by simp)) (by omega)
   obtain ⟨⟨d0,d1,d2,d3⟩,⟨g0,g1,g2,g3⟩,hz⟩:=box4 hg1
   simp only [WantS.val]
   go_wp2
   exact bodyPost_ret (results_cell_row rfl _ _ _ _ _ _ _ rfl (heap_set (heap_set (heap_set (heap_set hg1)))) Tryz.underlying109 rfl infoWant) rfl (close_step (g:=w.heap.size+1) (M:=[⟨w.heap.size,#[.int .i64 v],2⟩]) (by repeat (first | exact grown_refl _ _ | refine grown_alloc ?_ _ | refine grown_drewN ?_ _ | refine grown_drew ?_)) hlt (by omega) (by simp) (by intro x hx;simp only [List.mem_cons,List.not_mem_nil,or_false] at hx;rcases hx with rfl <;> first | exact ⟨by simp,by simp,heap_new (by simp)⟩ | exact ⟨by simp,by simp,kO (heap_new (by simp))⟩) ⟨rfl,post⟩ rfl)
theorem lays1_step (w:World) (p:Nat) (base most:Int) (nx:Value) (B:List Ent) (k f:Int) (d:WayD) (s3:Nat) (bl s1 s2 bf:Nat) (h:Lies w p base most nx) (hs:Store w p B) (hb:inB base most) (hbl:⟨bl,#[.func (.func 194) #[] #[.pointer (some ⟨s1,0,none⟩),.pointer (some ⟨s2,0,none⟩),.pointer (some ⟨s3,0,none⟩)]],131⟩∈B) (hs1:XB B p s1) (hs2:VB B k s2) (hbf:VB B f bf) (hs3:WB B d s3) (hl:leadsP most f) :
   Calls Tryz.prog 201 #[.pointer (some ⟨bl,0,none⟩),.pointer (some ⟨bf,0,none⟩)] w (StepPost p base most B (laysK base k d f) w):=by
 obtain ⟨⟨c0,c1,c2⟩,f2,hlt⟩:=lies3 h
 have HP:=kH h
 have HB:=kH hb
 obtain ⟨hb0,hb1,hm0,hm1⟩:=hb
 obtain ⟨bl0,bll,bln⟩:=box_in hs hbl
 have Hbl:=kH hbl
 obtain ⟨s10,s1l,s1n⟩:=box_in hs hs1
 have Hs1:=kH hs1
 obtain ⟨s20,s2l,s2n⟩:=box_in hs hs2
 have Hs2:=kH hs2
 obtain ⟨bf0,bfl,bfn⟩:=box_in hs hbf
 have Hbf:=kH hbf
 have HS:=kH hs
 clear h hs hbl hs1 hs2 hbf
 have Hs3:=kH hs3
 clear hs3
 go_enter Tryz.func201,Tryz.ntmps201
 go_wp2_with fail
 refine (lays_step _ p base most nx B k f d s1 s2 (by first | exact HP.out | exact kO HP.out | exact kO (kO HP.out) | exact kO (kO (kO HP.out)) | exact kO (kO (kO (kO HP.out))) | exact kO (kO (kO (kO (kO HP.out)))) | exact kO (kO (kO (kO (kO (kO HP.out)))))) (HS.out.keep (by repeat (first | exact grown_refl _ _ | refine grown_alloc ?_ _ | refine grown_drewN ?_ _ | refine grown_drew ?_))) HB.out Hs1.out Hs2.out _ Hs3.out hl).mono ?_
 rintro e w1 ⟨rfl,post⟩
 have hg1:=box_grown post.1 (show (World.heap _)[w.heap.size]?=some (.cells #[.int .i64 0,.int .i64 0,.int .i64 0,.int .i64 0] 109 (0,0)) from heap_new (by simp)) (by omega)
 obtain ⟨⟨d0,d1,d2,d3⟩,⟨g0,g1,g2,g3⟩,hz⟩:=box4 hg1
 have POST:=kH post
 clear post
 generalize laysK base k d f=r at *
 obtain ⟨⟨r0,r1,r2,r3⟩,kk⟩:=r
 simp only [WantS.val]
 go_wp2
 exact bodyPost_ret (results_cell_row rfl _ _ _ _ _ _ _ rfl (heap_set (heap_set (heap_set (heap_set hg1)))) Tryz.underlying109 rfl infoWant) rfl (close_step (g:=w.heap.size) (M:=[]) (by repeat (first | exact grown_refl _ _ | refine grown_alloc ?_ _ | refine grown_drewN ?_ _ | refine grown_drew ?_)) hlt (by omega) (by simp) (fun x hx=>nomatch hx) ⟨rfl,POST.out⟩ rfl)
theorem lays2_step (w:World) (p:Nat) (base most:Int) (nx:Value) (B:List Ent) (k f:Int) (d:WayD) (s3:Nat) (bl s1 s2 bf:Nat) (h:Lies w p base most nx) (hs:Store w p B) (hb:inB base most) (hbl:⟨bl,#[.func (.func 194) #[] #[.pointer (some ⟨s1,0,none⟩),.pointer (some ⟨s2,0,none⟩),.pointer (some ⟨s3,0,none⟩)]],131⟩∈B) (hs1:XB B p s1) (hs2:VB B k s2) (hbf:VB B f bf) (hs3:WB B d s3) (hf:0≤f∧f < most) :
   Calls Tryz.prog 203 #[.pointer (some ⟨bl,0,none⟩),.pointer (some ⟨bf,0,none⟩)] w (StepPost p base most B (laysK base k d (f+1)) w):=by
 obtain ⟨⟨c0,c1,c2⟩,f2,hlt⟩:=lies3 h
 have HP:=kH h
 have HB:=kH hb
 obtain ⟨hb0,hb1,hm0,hm1⟩:=hb
 obtain ⟨bl0,bll,bln⟩:=box_in hs hbl
 have Hbl:=kH hbl
 obtain ⟨s10,s1l,s1n⟩:=box_in hs hs1
 have Hs1:=kH hs1
 obtain ⟨s20,s2l,s2n⟩:=box_in hs hs2
 have Hs2:=kH hs2
 obtain ⟨bf0,bfl,bfn⟩:=box_in hs hbf
 have Hbf:=kH hbf
 have HS:=kH hs
 clear h hs hbl hs1 hs2 hbf
 obtain ⟨hf0,hf1⟩:=hf
 have Hs3:=kH hs3
 clear hs3
 have hl:leadsP most (f+1):=by unfold leadsP;omega
 go_enter Tryz.func203,Tryz.ntmps203
 go_wp2_with fail
 refine (lays_step _ p base most nx B k (f+1) d s1 s2 (by first | exact HP.out | exact kO HP.out | exact kO (kO HP.out) | exact kO (kO (kO HP.out)) | exact kO (kO (kO (kO HP.out))) | exact kO (kO (kO (kO (kO HP.out)))) | exact kO (kO (kO (kO (kO (kO HP.out)))))) (HS.out.keep (by repeat (first | exact grown_refl _ _ | refine grown_alloc ?_ _ | refine grown_drewN ?_ _ | refine grown_drew ?_))) HB.out Hs1.out Hs2.out _ Hs3.out hl).mono ?_
 rintro e w1 ⟨rfl,post⟩
 have hg1:=box_grown post.1 (show (World.heap _)[w.heap.size]?=some (.cells #[.int .i64 0,.int .i64 0,.int .i64 0,.int .i64 0] 109 (0,0)) from heap_new (by simp)) (by omega)
 obtain ⟨⟨d0,d1,d2,d3⟩,⟨g0,g1,g2,g3⟩,hz⟩:=box4 hg1
 have POST:=kH post
 clear post
 generalize laysK base k d (f+1)=r at *
 obtain ⟨⟨r0,r1,r2,r3⟩,kk⟩:=r
 simp only [WantS.val]
 go_wp2
 exact bodyPost_ret (results_cell_row rfl _ _ _ _ _ _ _ rfl (heap_set (heap_set (heap_set (heap_set hg1)))) Tryz.underlying109 rfl infoWant) rfl (close_step (g:=w.heap.size) (M:=[]) (by repeat (first | exact grown_refl _ _ | refine grown_alloc ?_ _ | refine grown_drewN ?_ _ | refine grown_drew ?_)) hlt (by omega) (by simp) (fun x hx=>nomatch hx) ⟨rfl,POST.out⟩ rfl)
theorem tkey_step (w:World) (p:Nat) (base most:Int) (nx:Value) (B:List Ent) (k node:Int) (d:WayD) (bx bn bw:Nat) (h:Lies w p base most nx) (hs:Store w p B) (hb:inB base most) (hbx:XB B p bx) (hbn:VB B node bn) (hbw:WB B d bw) (hl:leadsP most node) :
   Calls Tryz.prog 196 #[.pointer (some ⟨bx,0,none⟩),.pointer (some ⟨bn,0,none⟩),.pointer (some ⟨bw,0,none⟩)] w (StepPost p base most B (putS (base+linkI node) d.p,.put (.link k d node)) w):=by
 obtain ⟨⟨c0,c1,c2⟩,f2,hlt⟩:=lies3 h
 have HP:=kH h
 have HB:=kH hb
 obtain ⟨hb0,hb1,hm0,hm1⟩:=hb
 obtain ⟨bx0,bxl,bxn⟩:=box_in hs hbx
 have Hbx:=kH hbx
 obtain ⟨bn0,bnl,bnn⟩:=box_in hs hbn
 have Hbn:=kH hbn
 obtain ⟨⟨bw0,bw1,bw2,bw3,bw4⟩,bwl,bwn⟩:=way_in hs hbw
 have Hbw:=kH hbw
 have HS:=kH hs
 clear h hs hbx hbn hbw
 go_enter Tryz.func196,Tryz.ntmps196
 go_wp2_with fail
 refine wp_region_still_tail 6 (by kernel_rfl) (by kernel_rfl) ?_
 change wpStill _ _ (World.drew _) (fun a'=>wpList _ _ _ _ a' (World.drew _)) _ _
 simp only [List.take_succ_cons,List.take_zero,List.drop_succ_cons,List.drop_zero]
 repeat still_step
 still_call ((link_calls _ (node) (lead0 hl) (lead1 hl hm1)).mono fun _ _ h=>⟨h.1,h.2.symm⟩)
 repeat still_step
 refine wpStill_nil ?_
 go_wp2_with fail
 refine (write_step _ p base most nx (B) (.link k d node) (linkI node) (d.p) 197 #[] (#[.pointer (some ⟨bx,0,none⟩),.pointer (some ⟨bw,0,none⟩),.pointer (some ⟨bn,0,none⟩)]) (by first | exact HP.out | exact kO HP.out | exact kO (kO HP.out) | exact kO (kO (kO HP.out)) | exact kO (kO (kO (kO HP.out))) | exact kO (kO (kO (kO (kO HP.out)))) | exact kO (kO (kO (kO (kO (kO HP.out)))))) HB.out (linkR hl hm1) ⟨_,_,_,Hbx.out,Hbw.out,Hbn.out,rfl⟩).mono ?_
 rintro e w1 ⟨rfl,post⟩
 have hg1:=box_grown post.1 (show (World.heap _)[w.heap.size]?=some (.cells #[.int .i64 0,.int .i64 0,.int .i64 0,.int .i64 0] 109 (0,0)) from heap_new (by simp)) (by omega)
 obtain ⟨⟨d0,d1,d2,d3⟩,⟨g0,g1,g2,g3⟩,hz⟩:=box4 hg1
 simp only [WantS.val]
 go_wp2
 exact bodyPost_ret (results_cell_row rfl _ _ _ _ _ _ _ rfl (heap_set (heap_set (heap_set (heap_set hg1)))) Tryz.underlying109 rfl infoWant) rfl (close_step (g:=w.heap.size) (M:=[]) (by repeat (first | exact grown_refl _ _ | refine grown_alloc ?_ _ | refine grown_drewN ?_ _ | refine grown_drew ?_)) hlt (by omega) (by simp) (fun x hx=>nomatch hx) ⟨rfl,post⟩ rfl)
theorem tlink_step (w:World) (p:Nat) (base most:Int) (nx:Value) (B:List Ent) (node:Int) (d:WayD) (bx bw bn:Nat) (h:Lies w p base most nx) (hs:Store w p B) (hb:inB base most) (hbx:XB B p bx) (hbw:WB B d bw) (hbn:VB B node bn) (hc:cellOk d.cell) :
   Calls Tryz.prog 197 #[.pointer (some ⟨bx,0,none⟩),.pointer (some ⟨bw,0,none⟩),.pointer (some ⟨bn,0,none⟩)] w (StepPost p base most B (putS (base+d.cell) node,.put .fin) w):=by
 obtain ⟨⟨c0,c1,c2⟩,f2,hlt⟩:=lies3 h
 have HP:=kH h
 have HB:=kH hb
 obtain ⟨hb0,hb1,hm0,hm1⟩:=hb
 obtain ⟨bx0,bxl,bxn⟩:=box_in hs hbx
 have Hbx:=kH hbx
 obtain ⟨⟨bw0,bw1,bw2,bw3,bw4⟩,bwl,bwn⟩:=way_in hs hbw
 have Hbw:=kH hbw
 obtain ⟨bn0,bnl,bnn⟩:=box_in hs hbn
 have Hbn:=kH hbn
 have HS:=kH hs
 clear h hs hbx hbw hbn
 go_enter Tryz.func197,Tryz.ntmps197
 go_wp2_with fail
 refine (write_step _ p base most nx (B) (.fin) (d.cell) (node) 198 #[] (#[.pointer (some ⟨bx,0,none⟩)]) (by first | exact HP.out | exact kO HP.out | exact kO (kO HP.out) | exact kO (kO (kO HP.out)) | exact kO (kO (kO (kO HP.out))) | exact kO (kO (kO (kO (kO HP.out)))) | exact kO (kO (kO (kO (kO (kO HP.out)))))) HB.out (cellR hc) ⟨_,Hbx.out,rfl⟩).mono ?_
 rintro e w1 ⟨rfl,post⟩
 have hg1:=box_grown post.1 (show (World.heap _)[w.heap.size]?=some (.cells #[.int .i64 0,.int .i64 0,.int .i64 0,.int .i64 0] 109 (0,0)) from heap_new (by simp)) (by omega)
 obtain ⟨⟨d0,d1,d2,d3⟩,⟨g0,g1,g2,g3⟩,hz⟩:=box4 hg1
 simp only [WantS.val]
 go_wp2
 exact bodyPost_ret (results_cell_row rfl _ _ _ _ _ _ _ rfl (heap_set (heap_set (heap_set (heap_set hg1)))) Tryz.underlying109 rfl infoWant) rfl (close_step (g:=w.heap.size) (M:=[]) (by repeat (first | exact grown_refl _ _ | refine grown_alloc ?_ _ | refine grown_drewN ?_ _ | refine grown_drew ?_)) hlt (by omega) (by simp) (fun x hx=>nomatch hx) ⟨rfl,post⟩ rfl)
theorem fin_step (w:World) (p:Nat) (base most:Int) (nx:Value) (B:List Ent)  (bx:Nat) (h:Lies w p base most nx) (hs:Store w p B) (hb:inB base most) (hbx:XB B p bx) :
   Calls Tryz.prog 198 #[.pointer (some ⟨bx,0,none⟩)] w (StepPost p base most B (endK 0 0) w):=by
 obtain ⟨⟨c0,c1,c2⟩,f2,hlt⟩:=lies3 h
 have HP:=kH h
 have HB:=kH hb
 obtain ⟨hb0,hb1,hm0,hm1⟩:=hb
 obtain ⟨bx0,bxl,bxn⟩:=box_in hs hbx
 have Hbx:=kH hbx
 have HS:=kH hs
 clear h hs hbx
 go_enter Tryz.func198,Tryz.ntmps198
 go_wp2_with fail
 refine (done_step _ p base most nx (B) (0) (0) (by first | exact HP.out | exact kO HP.out | exact kO (kO HP.out) | exact kO (kO (kO HP.out)) | exact kO (kO (kO (kO HP.out))) | exact kO (kO (kO (kO (kO HP.out)))) | exact kO (kO (kO (kO (kO (kO HP.out))))))).mono ?_
 rintro e w1 ⟨rfl,post⟩
 have hg1:=box_grown post.1 (show (World.heap _)[w.heap.size]?=some (.cells #[.int .i64 0,.int .i64 0,.int .i64 0,.int .i64 0] 109 (0,0)) from heap_new (by simp)) (by omega)
 obtain ⟨⟨d0,d1,d2,d3⟩,⟨g0,g1,g2,g3⟩,hz⟩:=box4 hg1
 simp only [WantS.val,endK]
 go_wp2
 exact bodyPost_ret (results_cell_row rfl _ _ _ _ _ _ _ rfl (heap_set (heap_set (heap_set (heap_set hg1)))) Tryz.underlying109 rfl infoWant) rfl (close_step (g:=w.heap.size) (M:=[]) (by repeat (first | exact grown_refl _ _ | refine grown_alloc ?_ _ | refine grown_drewN ?_ _ | refine grown_drew ?_)) hlt (by omega) (by simp) (fun x hx=>nomatch hx) ⟨rfl,post⟩ rfl)
theorem delQ_step (w:World) (p:Nat) (base most:Int) (nx:Value) (B:List Ent) (v:Int) (d:WayD) (bx bw:Nat) (h:Lies w p base most nx) (hs:Store w p B) (hb:inB base most) (hbx:XB B p bx) (hbw:WB B d bw) (hc:cellOk d.cell) :
   Calls Tryz.prog 204 #[.int .i64 v,.pointer (some ⟨bx,0,none⟩),.pointer (some ⟨bw,0,none⟩)] w (StepPost p base most B (putS (base+d.cell) v,.put (.delW d)) w):=by
 obtain ⟨⟨c0,c1,c2⟩,f2,hlt⟩:=lies3 h
 have HP:=kH h
 have HB:=kH hb
 obtain ⟨hb0,hb1,hm0,hm1⟩:=hb
 obtain ⟨bx0,bxl,bxn⟩:=box_in hs hbx
 have Hbx:=kH hbx
 obtain ⟨⟨bw0,bw1,bw2,bw3,bw4⟩,bwl,bwn⟩:=way_in hs hbw
 have Hbw:=kH hbw
 have HS:=kH hs
 clear h hs hbx hbw
 go_enter Tryz.func204,Tryz.ntmps204
 go_wp2_with fail
 refine (write_step _ p base most nx (B) (.delW d) (d.cell) (v) 205 #[] (#[.pointer (some ⟨bx,0,none⟩),.pointer (some ⟨bw,0,none⟩)]) (by first | exact HP.out | exact kO HP.out | exact kO (kO HP.out) | exact kO (kO (kO HP.out)) | exact kO (kO (kO (kO HP.out))) | exact kO (kO (kO (kO (kO HP.out)))) | exact kO (kO (kO (kO (kO (kO HP.out)))))) HB.out (cellR hc) ⟨_,_,Hbx.out,Hbw.out,rfl⟩).mono ?_
 rintro e w1 ⟨rfl,post⟩
 have hg1:=box_grown post.1 (show (World.heap _)[w.heap.size]?=some (.cells #[.int .i64 0,.int .i64 0,.int .i64 0,.int .i64 0] 109 (0,0)) from heap_new (by simp)) (by omega)
 obtain ⟨⟨d0,d1,d2,d3⟩,⟨g0,g1,g2,g3⟩,hz⟩:=box4 hg1
 simp only [WantS.val]
 go_wp2
 exact bodyPost_ret (results_cell_row rfl _ _ _ _ _ _ _ rfl (heap_set (heap_set (heap_set (heap_set hg1)))) Tryz.underlying109 rfl infoWant) rfl (close_step (g:=w.heap.size) (M:=[]) (by repeat (first | exact grown_refl _ _ | refine grown_alloc ?_ _ | refine grown_drewN ?_ _ | refine grown_drew ?_)) hlt (by omega) (by simp) (fun x hx=>nomatch hx) ⟨rfl,post⟩ rfl)
theorem delW_step (w:World) (p:Nat) (base most:Int) (nx:Value) (B:List Ent) (d:WayD) (bx bw:Nat) (h:Lies w p base most nx) (hs:Store w p B) (hb:inB base most) (hbx:XB B p bx) (hbw:WB B d bw) :
   Calls Tryz.prog 205 #[.pointer (some ⟨bx,0,none⟩),.pointer (some ⟨bw,0,none⟩)] w (StepPost p base most B (readS (base+1),.delF d) w):=by
 obtain ⟨⟨c0,c1,c2⟩,f2,hlt⟩:=lies3 h
 have HP:=kH h
 have HB:=kH hb
 obtain ⟨hb0,hb1,hm0,hm1⟩:=hb
 obtain ⟨bx0,bxl,bxn⟩:=box_in hs hbx
 have Hbx:=kH hbx
 obtain ⟨⟨bw0,bw1,bw2,bw3,bw4⟩,bwl,bwn⟩:=way_in hs hbw
 have Hbw:=kH hbw
 have HS:=kH hs
 clear h hs hbx hbw
 go_enter Tryz.func205,Tryz.ntmps205
 go_wp2_with fail
 refine (read_step _ p base most nx (B) (.delF d) (1) 206 (#[]) (#[.pointer (some ⟨bx,0,none⟩),.pointer (some ⟨bw,0,none⟩)]) (by first | exact HP.out | exact kO HP.out | exact kO (kO HP.out) | exact kO (kO (kO HP.out)) | exact kO (kO (kO (kO HP.out))) | exact kO (kO (kO (kO (kO HP.out)))) | exact kO (kO (kO (kO (kO (kO HP.out)))))) HB.out (by omega) ⟨_,_,Hbx.out,Hbw.out,rfl⟩).mono ?_
 rintro e w1 ⟨rfl,post⟩
 have hg1:=box_grown post.1 (show (World.heap _)[w.heap.size]?=some (.cells #[.int .i64 0,.int .i64 0,.int .i64 0,.int .i64 0] 109 (0,0)) from heap_new (by simp)) (by omega)
 obtain ⟨⟨d0,d1,d2,d3⟩,⟨g0,g1,g2,g3⟩,hz⟩:=box4 hg1
 simp only [WantS.val]
 go_wp2
 exact bodyPost_ret (results_cell_row rfl _ _ _ _ _ _ _ rfl (heap_set (heap_set (heap_set (heap_set hg1)))) Tryz.underlying109 rfl infoWant) rfl (close_step (g:=w.heap.size) (M:=[]) (by repeat (first | exact grown_refl _ _ | refine grown_alloc ?_ _ | refine grown_drewN ?_ _ | refine grown_drew ?_)) hlt (by omega) (by simp) (fun x hx=>nomatch hx) ⟨rfl,post⟩ rfl)
theorem delF_step (w:World) (p:Nat) (base most:Int) (nx:Value) (B:List Ent) (v:Int) (d:WayD) (bx bw:Nat) (h:Lies w p base most nx) (hs:Store w p B) (hb:inB base most) (hbx:XB B p bx) (hbw:WB B d bw) (hl:leadsP most d.p) :
   Calls Tryz.prog 206 #[.int .i64 v,.pointer (some ⟨bx,0,none⟩),.pointer (some ⟨bw,0,none⟩)] w (StepPost p base most B (putS (base+linkI d.p) v,.put (.delL d)) w):=by
 obtain ⟨⟨c0,c1,c2⟩,f2,hlt⟩:=lies3 h
 have HP:=kH h
 have HB:=kH hb
 obtain ⟨hb0,hb1,hm0,hm1⟩:=hb
 obtain ⟨bx0,bxl,bxn⟩:=box_in hs hbx
 have Hbx:=kH hbx
 obtain ⟨⟨bw0,bw1,bw2,bw3,bw4⟩,bwl,bwn⟩:=way_in hs hbw
 have Hbw:=kH hbw
 have HS:=kH hs
 clear h hs hbx hbw
 go_enter Tryz.func206,Tryz.ntmps206
 go_wp2_with fail
 refine wp_region_still_tail 6 (by kernel_rfl) (by kernel_rfl) ?_
 change wpStill _ _ (World.drew _) (fun a'=>wpList _ _ _ _ a' (World.drew _)) _ _
 simp only [List.take_succ_cons,List.take_zero,List.drop_succ_cons,List.drop_zero]
 repeat still_step
 still_call ((link_calls _ (d.p) (lead0 hl) (lead1 hl hm1)).mono fun _ _ h=>⟨h.1,h.2.symm⟩)
 repeat still_step
 refine wpStill_nil ?_
 go_wp2_with fail
 refine (write_step _ p base most nx (B) (.delL d) (linkI d.p) (v) 207 #[] (#[.pointer (some ⟨bx,0,none⟩),.pointer (some ⟨bw,0,none⟩)]) (by first | exact HP.out | exact kO HP.out | exact kO (kO HP.out) | exact kO (kO (kO HP.out)) | exact kO (kO (kO (kO HP.out))) | exact kO (kO (kO (kO (kO HP.out)))) | exact kO (kO (kO (kO (kO (kO HP.out)))))) HB.out (linkR hl hm1) ⟨_,_,Hbx.out,Hbw.out,rfl⟩).mono ?_
 rintro e w1 ⟨rfl,post⟩
 have hg1:=box_grown post.1 (show (World.heap _)[w.heap.size]?=some (.cells #[.int .i64 0,.int .i64 0,.int .i64 0,.int .i64 0] 109 (0,0)) from heap_new (by simp)) (by omega)
 obtain ⟨⟨d0,d1,d2,d3⟩,⟨g0,g1,g2,g3⟩,hz⟩:=box4 hg1
 simp only [WantS.val]
 go_wp2
 exact bodyPost_ret (results_cell_row rfl _ _ _ _ _ _ _ rfl (heap_set (heap_set (heap_set (heap_set hg1)))) Tryz.underlying109 rfl infoWant) rfl (close_step (g:=w.heap.size) (M:=[]) (by repeat (first | exact grown_refl _ _ | refine grown_alloc ?_ _ | refine grown_drewN ?_ _ | refine grown_drew ?_)) hlt (by omega) (by simp) (fun x hx=>nomatch hx) ⟨rfl,post⟩ rfl)
theorem delL_step (w:World) (p:Nat) (base most:Int) (nx:Value) (B:List Ent) (d:WayD) (bx bw:Nat) (h:Lies w p base most nx) (hs:Store w p B) (hb:inB base most) (hbx:XB B p bx) (hbw:WB B d bw) :
   Calls Tryz.prog 207 #[.pointer (some ⟨bx,0,none⟩),.pointer (some ⟨bw,0,none⟩)] w (StepPost p base most B (putS (base+1) d.p,.put .delFin) w):=by
 obtain ⟨⟨c0,c1,c2⟩,f2,hlt⟩:=lies3 h
 have HP:=kH h
 have HB:=kH hb
 obtain ⟨hb0,hb1,hm0,hm1⟩:=hb
 obtain ⟨bx0,bxl,bxn⟩:=box_in hs hbx
 have Hbx:=kH hbx
 obtain ⟨⟨bw0,bw1,bw2,bw3,bw4⟩,bwl,bwn⟩:=way_in hs hbw
 have Hbw:=kH hbw
 have HS:=kH hs
 clear h hs hbx hbw
 go_enter Tryz.func207,Tryz.ntmps207
 go_wp2_with fail
 refine (write_step _ p base most nx (B) (.delFin) (1) (d.p) 208 #[] (#[.pointer (some ⟨bx,0,none⟩)]) (by first | exact HP.out | exact kO HP.out | exact kO (kO HP.out) | exact kO (kO (kO HP.out)) | exact kO (kO (kO (kO HP.out))) | exact kO (kO (kO (kO (kO HP.out)))) | exact kO (kO (kO (kO (kO (kO HP.out)))))) HB.out (by omega) ⟨_,Hbx.out,rfl⟩).mono ?_
 rintro e w1 ⟨rfl,post⟩
 have hg1:=box_grown post.1 (show (World.heap _)[w.heap.size]?=some (.cells #[.int .i64 0,.int .i64 0,.int .i64 0,.int .i64 0] 109 (0,0)) from heap_new (by simp)) (by omega)
 obtain ⟨⟨d0,d1,d2,d3⟩,⟨g0,g1,g2,g3⟩,hz⟩:=box4 hg1
 simp only [WantS.val]
 go_wp2
 exact bodyPost_ret (results_cell_row rfl _ _ _ _ _ _ _ rfl (heap_set (heap_set (heap_set (heap_set hg1)))) Tryz.underlying109 rfl infoWant) rfl (close_step (g:=w.heap.size) (M:=[]) (by repeat (first | exact grown_refl _ _ | refine grown_alloc ?_ _ | refine grown_drewN ?_ _ | refine grown_drew ?_)) hlt (by omega) (by simp) (fun x hx=>nomatch hx) ⟨rfl,post⟩ rfl)
theorem delFin_step (w:World) (p:Nat) (base most:Int) (nx:Value) (B:List Ent)  (bx:Nat) (h:Lies w p base most nx) (hs:Store w p B) (hb:inB base most) (hbx:XB B p bx) :
   Calls Tryz.prog 208 #[.pointer (some ⟨bx,0,none⟩)] w (StepPost p base most B (endK 0 0) w):=by
 obtain ⟨⟨c0,c1,c2⟩,f2,hlt⟩:=lies3 h
 have HP:=kH h
 have HB:=kH hb
 obtain ⟨hb0,hb1,hm0,hm1⟩:=hb
 obtain ⟨bx0,bxl,bxn⟩:=box_in hs hbx
 have Hbx:=kH hbx
 have HS:=kH hs
 clear h hs hbx
 go_enter Tryz.func208,Tryz.ntmps208
 go_wp2_with fail
 refine (done_step _ p base most nx (B) (0) (0) (by first | exact HP.out | exact kO HP.out | exact kO (kO HP.out) | exact kO (kO (kO HP.out)) | exact kO (kO (kO (kO HP.out))) | exact kO (kO (kO (kO (kO HP.out)))) | exact kO (kO (kO (kO (kO (kO HP.out))))))).mono ?_
 rintro e w1 ⟨rfl,post⟩
 have hg1:=box_grown post.1 (show (World.heap _)[w.heap.size]?=some (.cells #[.int .i64 0,.int .i64 0,.int .i64 0,.int .i64 0] 109 (0,0)) from heap_new (by simp)) (by omega)
 obtain ⟨⟨d0,d1,d2,d3⟩,⟨g0,g1,g2,g3⟩,hz⟩:=box4 hg1
 simp only [WantS.val,endK]
 go_wp2
 exact bodyPost_ret (results_cell_row rfl _ _ _ _ _ _ _ rfl (heap_set (heap_set (heap_set (heap_set hg1)))) Tryz.underlying109 rfl infoWant) rfl (close_step (g:=w.heap.size) (M:=[]) (by repeat (first | exact grown_refl _ _ | refine grown_alloc ?_ _ | refine grown_drewN ?_ _ | refine grown_drew ?_)) hlt (by omega) (by simp) (fun x hx=>nomatch hx) ⟨rfl,post⟩ rfl)
end Chn
namespace Chn
open Go.RowKit
theorem w1_lays1 (w:World) (p:Nat) (base most:Int) (nx:Value) (B:List Ent) (v:Int) (k f:Int) (d:WayD) (s3:Nat) (bl s1 s2 bf bt:Nat) (h:Lies w p base most nx) (hs:Store w p B) (hb:inB base most) (hbl:⟨bl,#[.func (.func 194) #[] #[.pointer (some ⟨s1,0,none⟩),.pointer (some ⟨s2,0,none⟩),.pointer (some ⟨s3,0,none⟩)]],131⟩∈B) (hs1:XB B p s1) (hs2:VB B k s2) (hbf:VB B f bf) (hbt:⟨bt,#[.func (.func 201) #[] #[.pointer (some ⟨bl,0,none⟩),.pointer (some ⟨bf,0,none⟩)]],266⟩∈B) (hs3:WB B d s3) (hl:leadsP most f) :
   Calls Tryz.prog 228 #[.int .i64 v,.pointer (some ⟨bt,0,none⟩)] w (StepPost p base most B (laysK base k d f) w):=by
 obtain ⟨⟨c0,c1,c2⟩,f2,hlt⟩:=lies3 h
 have HP:=kH h
 have HB:=kH hb
 obtain ⟨hb0,hb1,hm0,hm1⟩:=hb
 obtain ⟨bl0,bll,bln⟩:=box_in hs hbl
 have Hbl:=kH hbl
 obtain ⟨s10,s1l,s1n⟩:=box_in hs hs1
 have Hs1:=kH hs1
 obtain ⟨s20,s2l,s2n⟩:=box_in hs hs2
 have Hs2:=kH hs2
 obtain ⟨bf0,bfl,bfn⟩:=box_in hs hbf
 have Hbf:=kH hbf
 obtain ⟨bt0,btl,btn⟩:=box_in hs hbt
 have Hbt:=kH hbt
 have HS:=kH hs
 clear h hs hbl hs1 hs2 hbf hbt
 go_enter Tryz.func228,Tryz.ntmps228
 go_wp2_with fail
 refine (lays1_step _ p base most nx B k f d s3 bl s1 s2 bf (by first | exact HP.out | exact kO HP.out | exact kO (kO HP.out) | exact kO (kO (kO HP.out)) | exact kO (kO (kO (kO HP.out))) | exact kO (kO (kO (kO (kO HP.out)))) | exact kO (kO (kO (kO (kO (kO HP.out)))))) (HS.out.keep (by repeat (first | exact grown_refl _ _ | refine grown_alloc ?_ _ | refine grown_drewN ?_ _ | refine grown_drew ?_))) HB.out Hbl.out Hs1.out Hs2.out Hbf.out hs3 hl).mono ?_
 rintro e w1 ⟨rfl,post⟩
 have hg1:=box_grown post.1 (show (World.heap _)[w.heap.size]?=some (.cells #[.int .i64 0,.int .i64 0,.int .i64 0,.int .i64 0] 109 (0,0)) from heap_new (by simp)) (by omega)
 obtain ⟨⟨d0,d1,d2,d3⟩,⟨g0,g1,g2,g3⟩,hz⟩:=box4 hg1
 have POST:=kH post
 clear post
 generalize (laysK base k d f)=r at *
 obtain ⟨⟨r0,r1,r2,r3⟩,kk⟩:=r
 simp only [WantS.val]
 go_wp2
 exact bodyPost_ret (results_cell_row rfl _ _ _ _ _ _ _ rfl (heap_set (heap_set (heap_set (heap_set hg1)))) Tryz.underlying109 rfl infoWant) rfl (close_step (g:=w.heap.size) (M:=[]) (by repeat (first | exact grown_refl _ _ | refine grown_alloc ?_ _ | refine grown_drewN ?_ _ | refine grown_drew ?_)) hlt (by omega) (by simp) (fun x hx=>nomatch hx) ⟨rfl,POST.out⟩ rfl)
theorem w1_lays2 (w:World) (p:Nat) (base most:Int) (nx:Value) (B:List Ent) (v:Int) (k f:Int) (d:WayD) (s3:Nat) (bl s1 s2 bf bt:Nat) (h:Lies w p base most nx) (hs:Store w p B) (hb:inB base most) (hbl:⟨bl,#[.func (.func 194) #[] #[.pointer (some ⟨s1,0,none⟩),.pointer (some ⟨s2,0,none⟩),.pointer (some ⟨s3,0,none⟩)]],131⟩∈B) (hs1:XB B p s1) (hs2:VB B k s2) (hbf:VB B f bf) (hbt:⟨bt,#[.func (.func 203) #[] #[.pointer (some ⟨bl,0,none⟩),.pointer (some ⟨bf,0,none⟩)]],266⟩∈B) (hs3:WB B d s3) (hf:0≤f∧f < most) :
   Calls Tryz.prog 228 #[.int .i64 v,.pointer (some ⟨bt,0,none⟩)] w (StepPost p base most B (laysK base k d (f+1)) w):=by
 obtain ⟨⟨c0,c1,c2⟩,f2,hlt⟩:=lies3 h
 have HP:=kH h
 have HB:=kH hb
 obtain ⟨hb0,hb1,hm0,hm1⟩:=hb
 obtain ⟨bl0,bll,bln⟩:=box_in hs hbl
 have Hbl:=kH hbl
 obtain ⟨s10,s1l,s1n⟩:=box_in hs hs1
 have Hs1:=kH hs1
 obtain ⟨s20,s2l,s2n⟩:=box_in hs hs2
 have Hs2:=kH hs2
 obtain ⟨bf0,bfl,bfn⟩:=box_in hs hbf
 have Hbf:=kH hbf
 obtain ⟨bt0,btl,btn⟩:=box_in hs hbt
 have Hbt:=kH hbt
 have HS:=kH hs
 clear h hs hbl hs1 hs2 hbf hbt
 go_enter Tryz.func228,Tryz.ntmps228
 go_wp2_with fail
 refine (lays2_step _ p base most nx B k f d s3 bl s1 s2 bf (by first | exact HP.out | exact kO HP.out | exact kO (kO HP.out) | exact kO (kO (kO HP.out)) | exact kO (kO (kO (kO HP.out))) | exact kO (kO (kO (kO (kO HP.out)))) | exact kO (kO (kO (kO (kO (kO HP.out)))))) (HS.out.keep (by repeat (first | exact grown_refl _ _ | refine grown_alloc ?_ _ | refine grown_drewN ?_ _ | refine grown_drew ?_))) HB.out Hbl.out Hs1.out Hs2.out Hbf.out hs3 hf).mono ?_
 rintro e w1 ⟨rfl,post⟩
 have hg1:=box_grown post.1 (show (World.heap _)[w.heap.size]?=some (.cells #[.int .i64 0,.int .i64 0,.int .i64 0,.int .i64 0] 109 (0,0)) from heap_new (by simp)) (by omega)
 obtain ⟨⟨d0,d1,d2,d3⟩,⟨g0,g1,g2,g3⟩,hz⟩:=box4 hg1
 have POST:=kH post
 clear post
 generalize (laysK base k d (f+1))=r at *
 obtain ⟨⟨r0,r1,r2,r3⟩,kk⟩:=r
 simp only [WantS.val]
 go_wp2
 exact bodyPost_ret (results_cell_row rfl _ _ _ _ _ _ _ rfl (heap_set (heap_set (heap_set (heap_set hg1)))) Tryz.underlying109 rfl infoWant) rfl (close_step (g:=w.heap.size) (M:=[]) (by repeat (first | exact grown_refl _ _ | refine grown_alloc ?_ _ | refine grown_drewN ?_ _ | refine grown_drew ?_)) hlt (by omega) (by simp) (fun x hx=>nomatch hx) ⟨rfl,POST.out⟩ rfl)
theorem w1_key (w:World) (p:Nat) (base most:Int) (nx:Value) (B:List Ent) (v:Int) (k node:Int) (d:WayD) (bx bn bw bt:Nat) (h:Lies w p base most nx) (hs:Store w p B) (hb:inB base most) (hbx:XB B p bx) (hbn:VB B node bn) (hbw:WB B d bw) (hbt:⟨bt,#[.func (.func 196) #[] #[.pointer (some ⟨bx,0,none⟩),.pointer (some ⟨bn,0,none⟩),.pointer (some ⟨bw,0,none⟩)]],266⟩∈B) (hl:leadsP most node) :
   Calls Tryz.prog 228 #[.int .i64 v,.pointer (some ⟨bt,0,none⟩)] w (StepPost p base most B (putS (base+linkI node) d.p,K.put (.link k d node)) w):=by
 obtain ⟨⟨c0,c1,c2⟩,f2,hlt⟩:=lies3 h
 have HP:=kH h
 have HB:=kH hb
 obtain ⟨hb0,hb1,hm0,hm1⟩:=hb
 obtain ⟨bx0,bxl,bxn⟩:=box_in hs hbx
 have Hbx:=kH hbx
 obtain ⟨bn0,bnl,bnn⟩:=box_in hs hbn
 have Hbn:=kH hbn
 obtain ⟨⟨bw0,bw1,bw2,bw3,bw4⟩,bwl,bwn⟩:=way_in hs hbw
 have Hbw:=kH hbw
 obtain ⟨bt0,btl,btn⟩:=box_in hs hbt
 have Hbt:=kH hbt
 have HS:=kH hs
 clear h hs hbx hbn hbw hbt
 go_enter Tryz.func228,Tryz.ntmps228
 go_wp2_with fail
 refine (tkey_step _ p base most nx B k node d bx bn bw (by first | exact HP.out | exact kO HP.out | exact kO (kO HP.out) | exact kO (kO (kO HP.out)) | exact kO (kO (kO (kO HP.out))) | exact kO (kO (kO (kO (kO HP.out)))) | exact kO (kO (kO (kO (kO (kO HP.out)))))) (HS.out.keep (by repeat (first | exact grown_refl _ _ | refine grown_alloc ?_ _ | refine grown_drewN ?_ _ | refine grown_drew ?_))) HB.out Hbx.out Hbn.out Hbw.out hl).mono ?_
 rintro e w1 ⟨rfl,post⟩
 have hg1:=box_grown post.1 (show (World.heap _)[w.heap.size]?=some (.cells #[.int .i64 0,.int .i64 0,.int .i64 0,.int .i64 0] 109 (0,0)) from heap_new (by simp)) (by omega)
 obtain ⟨⟨d0,d1,d2,d3⟩,⟨g0,g1,g2,g3⟩,hz⟩:=box4 hg1
 have POST:=kH post
 clear post
 generalize (putS (base+linkI node) d.p,K.put (.link k d node))=r at *
 obtain ⟨⟨r0,r1,r2,r3⟩,kk⟩:=r
 simp only [WantS.val]
 go_wp2
 exact bodyPost_ret (results_cell_row rfl _ _ _ _ _ _ _ rfl (heap_set (heap_set (heap_set (heap_set hg1)))) Tryz.underlying109 rfl infoWant) rfl (close_step (g:=w.heap.size) (M:=[]) (by repeat (first | exact grown_refl _ _ | refine grown_alloc ?_ _ | refine grown_drewN ?_ _ | refine grown_drew ?_)) hlt (by omega) (by simp) (fun x hx=>nomatch hx) ⟨rfl,POST.out⟩ rfl)
theorem w1_link (w:World) (p:Nat) (base most:Int) (nx:Value) (B:List Ent) (v:Int) (node:Int) (d:WayD) (bx bw bn bt:Nat) (h:Lies w p base most nx) (hs:Store w p B) (hb:inB base most) (hbx:XB B p bx) (hbw:WB B d bw) (hbn:VB B node bn) (hbt:⟨bt,#[.func (.func 197) #[] #[.pointer (some ⟨bx,0,none⟩),.pointer (some ⟨bw,0,none⟩),.pointer (some ⟨bn,0,none⟩)]],266⟩∈B) (hc:cellOk d.cell) :
   Calls Tryz.prog 228 #[.int .i64 v,.pointer (some ⟨bt,0,none⟩)] w (StepPost p base most B (putS (base+d.cell) node,K.put .fin) w):=by
 obtain ⟨⟨c0,c1,c2⟩,f2,hlt⟩:=lies3 h
 have HP:=kH h
 have HB:=kH hb
 obtain ⟨hb0,hb1,hm0,hm1⟩:=hb
 obtain ⟨bx0,bxl,bxn⟩:=box_in hs hbx
 have Hbx:=kH hbx
 obtain ⟨⟨bw0,bw1,bw2,bw3,bw4⟩,bwl,bwn⟩:=way_in hs hbw
 have Hbw:=kH hbw
 obtain ⟨bn0,bnl,bnn⟩:=box_in hs hbn
 have Hbn:=kH hbn
 obtain ⟨bt0,btl,btn⟩:=box_in hs hbt
 have Hbt:=kH hbt
 have HS:=kH hs
 clear h hs hbx hbw hbn hbt
 go_enter Tryz.func228,Tryz.ntmps228
 go_wp2_with fail
 refine (tlink_step _ p base most nx B node d bx bw bn (by first | exact HP.out | exact kO HP.out | exact kO (kO HP.out) | exact kO (kO (kO HP.out)) | exact kO (kO (kO (kO HP.out))) | exact kO (kO (kO (kO (kO HP.out)))) | exact kO (kO (kO (kO (kO (kO HP.out)))))) (HS.out.keep (by repeat (first | exact grown_refl _ _ | refine grown_alloc ?_ _ | refine grown_drewN ?_ _ | refine grown_drew ?_))) HB.out Hbx.out Hbw.out Hbn.out hc).mono ?_
 rintro e w1 ⟨rfl,post⟩
 have hg1:=box_grown post.1 (show (World.heap _)[w.heap.size]?=some (.cells #[.int .i64 0,.int .i64 0,.int .i64 0,.int .i64 0] 109 (0,0)) from heap_new (by simp)) (by omega)
 obtain ⟨⟨d0,d1,d2,d3⟩,⟨g0,g1,g2,g3⟩,hz⟩:=box4 hg1
 have POST:=kH post
 clear post
 generalize (putS (base+d.cell) node,K.put .fin)=r at *
 obtain ⟨⟨r0,r1,r2,r3⟩,kk⟩:=r
 simp only [WantS.val]
 go_wp2
 exact bodyPost_ret (results_cell_row rfl _ _ _ _ _ _ _ rfl (heap_set (heap_set (heap_set (heap_set hg1)))) Tryz.underlying109 rfl infoWant) rfl (close_step (g:=w.heap.size) (M:=[]) (by repeat (first | exact grown_refl _ _ | refine grown_alloc ?_ _ | refine grown_drewN ?_ _ | refine grown_drew ?_)) hlt (by omega) (by simp) (fun x hx=>nomatch hx) ⟨rfl,POST.out⟩ rfl)
theorem w1_fin (w:World) (p:Nat) (base most:Int) (nx:Value) (B:List Ent) (v:Int)  (bx bt:Nat) (h:Lies w p base most nx) (hs:Store w p B) (hb:inB base most) (hbx:XB B p bx) (hbt:⟨bt,#[.func (.func 198) #[] #[.pointer (some ⟨bx,0,none⟩)]],266⟩∈B) :
   Calls Tryz.prog 228 #[.int .i64 v,.pointer (some ⟨bt,0,none⟩)] w (StepPost p base most B (endK 0 0) w):=by
 obtain ⟨⟨c0,c1,c2⟩,f2,hlt⟩:=lies3 h
 have HP:=kH h
 have HB:=kH hb
 obtain ⟨hb0,hb1,hm0,hm1⟩:=hb
 obtain ⟨bx0,bxl,bxn⟩:=box_in hs hbx
 have Hbx:=kH hbx
 obtain ⟨bt0,btl,btn⟩:=box_in hs hbt
 have Hbt:=kH hbt
 have HS:=kH hs
 clear h hs hbx hbt
 go_enter Tryz.func228,Tryz.ntmps228
 go_wp2_with fail
 refine (fin_step _ p base most nx B bx (by first | exact HP.out | exact kO HP.out | exact kO (kO HP.out) | exact kO (kO (kO HP.out)) | exact kO (kO (kO (kO HP.out))) | exact kO (kO (kO (kO (kO HP.out)))) | exact kO (kO (kO (kO (kO (kO HP.out)))))) (HS.out.keep (by repeat (first | exact grown_refl _ _ | refine grown_alloc ?_ _ | refine grown_drewN ?_ _ | refine grown_drew ?_))) HB.out Hbx.out).mono ?_
 rintro e w1 ⟨rfl,post⟩
 have hg1:=box_grown post.1 (show (World.heap _)[w.heap.size]?=some (.cells #[.int .i64 0,.int .i64 0,.int .i64 0,.int .i64 0] 109 (0,0)) from heap_new (by simp)) (by omega)
 obtain ⟨⟨d0,d1,d2,d3⟩,⟨g0,g1,g2,g3⟩,hz⟩:=box4 hg1
 have POST:=kH post
 clear post
 generalize (endK 0 0)=r at *
 obtain ⟨⟨r0,r1,r2,r3⟩,kk⟩:=r
 simp only [WantS.val]
 go_wp2
 exact bodyPost_ret (results_cell_row rfl _ _ _ _ _ _ _ rfl (heap_set (heap_set (heap_set (heap_set hg1)))) Tryz.underlying109 rfl infoWant) rfl (close_step (g:=w.heap.size) (M:=[]) (by repeat (first | exact grown_refl _ _ | refine grown_alloc ?_ _ | refine grown_drewN ?_ _ | refine grown_drew ?_)) hlt (by omega) (by simp) (fun x hx=>nomatch hx) ⟨rfl,POST.out⟩ rfl)
theorem w1_delW (w:World) (p:Nat) (base most:Int) (nx:Value) (B:List Ent) (v:Int) (d:WayD) (bx bw bt:Nat) (h:Lies w p base most nx) (hs:Store w p B) (hb:inB base most) (hbx:XB B p bx) (hbw:WB B d bw) (hbt:⟨bt,#[.func (.func 205) #[] #[.pointer (some ⟨bx,0,none⟩),.pointer (some ⟨bw,0,none⟩)]],266⟩∈B) :
   Calls Tryz.prog 228 #[.int .i64 v,.pointer (some ⟨bt,0,none⟩)] w (StepPost p base most B (readS (base+1),K.delF d) w):=by
 obtain ⟨⟨c0,c1,c2⟩,f2,hlt⟩:=lies3 h
 have HP:=kH h
 have HB:=kH hb
 obtain ⟨hb0,hb1,hm0,hm1⟩:=hb
 obtain ⟨bx0,bxl,bxn⟩:=box_in hs hbx
 have Hbx:=kH hbx
 obtain ⟨⟨bw0,bw1,bw2,bw3,bw4⟩,bwl,bwn⟩:=way_in hs hbw
 have Hbw:=kH hbw
 obtain ⟨bt0,btl,btn⟩:=box_in hs hbt
 have Hbt:=kH hbt
 have HS:=kH hs
 clear h hs hbx hbw hbt
 go_enter Tryz.func228,Tryz.ntmps228
 go_wp2_with fail
 refine (delW_step _ p base most nx B d bx bw (by first | exact HP.out | exact kO HP.out | exact kO (kO HP.out) | exact kO (kO (kO HP.out)) | exact kO (kO (kO (kO HP.out))) | exact kO (kO (kO (kO (kO HP.out)))) | exact kO (kO (kO (kO (kO (kO HP.out)))))) (HS.out.keep (by repeat (first | exact grown_refl _ _ | refine grown_alloc ?_ _ | refine grown_drewN ?_ _ | refine grown_drew ?_))) HB.out Hbx.out Hbw.out).mono ?_
 rintro e w1 ⟨rfl,post⟩
 have hg1:=box_grown post.1 (show (World.heap _)[w.heap.size]?=some (.cells #[.int .i64 0,.int .i64 0,.int .i64 0,.int .i64 0] 109 (0,0)) from heap_new (by simp)) (by omega)
 obtain ⟨⟨d0,d1,d2,d3⟩,⟨g0,g1,g2,g3⟩,hz⟩:=box4 hg1
 have POST:=kH post
 clear post
 generalize (readS (base+1),K.delF d)=r at *
 obtain ⟨⟨r0,r1,r2,r3⟩,kk⟩:=r
 simp only [WantS.val]
 go_wp2
 exact bodyPost_ret (results_cell_row rfl _ _ _ _ _ _ _ rfl (heap_set (heap_set (heap_set (heap_set hg1)))) Tryz.underlying109 rfl infoWant) rfl (close_step (g:=w.heap.size) (M:=[]) (by repeat (first | exact grown_refl _ _ | refine grown_alloc ?_ _ | refine grown_drewN ?_ _ | refine grown_drew ?_)) hlt (by omega) (by simp) (fun x hx=>nomatch hx) ⟨rfl,POST.out⟩ rfl)
theorem w1_delL (w:World) (p:Nat) (base most:Int) (nx:Value) (B:List Ent) (v:Int) (d:WayD) (bx bw bt:Nat) (h:Lies w p base most nx) (hs:Store w p B) (hb:inB base most) (hbx:XB B p bx) (hbw:WB B d bw) (hbt:⟨bt,#[.func (.func 207) #[] #[.pointer (some ⟨bx,0,none⟩),.pointer (some ⟨bw,0,none⟩)]],266⟩∈B) :
   Calls Tryz.prog 228 #[.int .i64 v,.pointer (some ⟨bt,0,none⟩)] w (StepPost p base most B (putS (base+1) d.p,K.put .delFin) w):=by
 obtain ⟨⟨c0,c1,c2⟩,f2,hlt⟩:=lies3 h
 have HP:=kH h
 have HB:=kH hb
 obtain ⟨hb0,hb1,hm0,hm1⟩:=hb
 obtain ⟨bx0,bxl,bxn⟩:=box_in hs hbx
 have Hbx:=kH hbx
 obtain ⟨⟨bw0,bw1,bw2,bw3,bw4⟩,bwl,bwn⟩:=way_in hs hbw
 have Hbw:=kH hbw
 obtain ⟨bt0,btl,btn⟩:=box_in hs hbt
 have Hbt:=kH hbt
 have HS:=kH hs
 clear h hs hbx hbw hbt
 go_enter Tryz.func228,Tryz.ntmps228
 go_wp2_with fail
 refine (delL_step _ p base most nx B d bx bw (by first | exact HP.out | exact kO HP.out | exact kO (kO HP.out) | exact kO (kO (kO HP.out)) | exact kO (kO (kO (kO HP.out))) | exact kO (kO (kO (kO (kO HP.out)))) | exact kO (kO (kO (kO (kO (kO HP.out)))))) (HS.out.keep (by repeat (first | exact grown_refl _ _ | refine grown_alloc ?_ _ | refine grown_drewN ?_ _ | refine grown_drew ?_))) HB.out Hbx.out Hbw.out).mono ?_
 rintro e w1 ⟨rfl,post⟩
 have hg1:=box_grown post.1 (show (World.heap _)[w.heap.size]?=some (.cells #[.int .i64 0,.int .i64 0,.int .i64 0,.int .i64 0] 109 (0,0)) from heap_new (by simp)) (by omega)
 obtain ⟨⟨d0,d1,d2,d3⟩,⟨g0,g1,g2,g3⟩,hz⟩:=box4 hg1
 have POST:=kH post
 clear post
 generalize (putS (base+1) d.p,K.put .delFin)=r at *
 obtain ⟨⟨r0,r1,r2,r3⟩,kk⟩:=r
 simp only [WantS.val]
 go_wp2
 exact bodyPost_ret (results_cell_row rfl _ _ _ _ _ _ _ rfl (heap_set (heap_set (heap_set (heap_set hg1)))) Tryz.underlying109 rfl infoWant) rfl (close_step (g:=w.heap.size) (M:=[]) (by repeat (first | exact grown_refl _ _ | refine grown_alloc ?_ _ | refine grown_drewN ?_ _ | refine grown_drew ?_)) hlt (by omega) (by simp) (fun x hx=>nomatch hx) ⟨rfl,POST.out⟩ rfl)
theorem w1_delFin (w:World) (p:Nat) (base most:Int) (nx:Value) (B:List Ent) (v:Int)  (bx bt:Nat) (h:Lies w p base most nx) (hs:Store w p B) (hb:inB base most) (hbx:XB B p bx) (hbt:⟨bt,#[.func (.func 208) #[] #[.pointer (some ⟨bx,0,none⟩)]],266⟩∈B) :
   Calls Tryz.prog 228 #[.int .i64 v,.pointer (some ⟨bt,0,none⟩)] w (StepPost p base most B (endK 0 0) w):=by
 obtain ⟨⟨c0,c1,c2⟩,f2,hlt⟩:=lies3 h
 have HP:=kH h
 have HB:=kH hb
 obtain ⟨hb0,hb1,hm0,hm1⟩:=hb
 obtain ⟨bx0,bxl,bxn⟩:=box_in hs hbx
 have Hbx:=kH hbx
 obtain ⟨bt0,btl,btn⟩:=box_in hs hbt
 have Hbt:=kH hbt
 have HS:=kH hs
 clear h hs hbx hbt
 go_enter Tryz.func228,Tryz.ntmps228
 go_wp2_with fail
 refine (delFin_step _ p base most nx B bx (by first | exact HP.out | exact kO HP.out | exact kO (kO HP.out) | exact kO (kO (kO HP.out)) | exact kO (kO (kO (kO HP.out))) | exact kO (kO (kO (kO (kO HP.out)))) | exact kO (kO (kO (kO (kO (kO HP.out)))))) (HS.out.keep (by repeat (first | exact grown_refl _ _ | refine grown_alloc ?_ _ | refine grown_drewN ?_ _ | refine grown_drew ?_))) HB.out Hbx.out).mono ?_
 rintro e w1 ⟨rfl,post⟩
 have hg1:=box_grown post.1 (show (World.heap _)[w.heap.size]?=some (.cells #[.int .i64 0,.int .i64 0,.int .i64 0,.int .i64 0] 109 (0,0)) from heap_new (by simp)) (by omega)
 obtain ⟨⟨d0,d1,d2,d3⟩,⟨g0,g1,g2,g3⟩,hz⟩:=box4 hg1
 have POST:=kH post
 clear post
 generalize (endK 0 0)=r at *
 obtain ⟨⟨r0,r1,r2,r3⟩,kk⟩:=r
 simp only [WantS.val]
 go_wp2
 exact bodyPost_ret (results_cell_row rfl _ _ _ _ _ _ _ rfl (heap_set (heap_set (heap_set (heap_set hg1)))) Tryz.underlying109 rfl infoWant) rfl (close_step (g:=w.heap.size) (M:=[]) (by repeat (first | exact grown_refl _ _ | refine grown_alloc ?_ _ | refine grown_drewN ?_ _ | refine grown_drew ?_)) hlt (by omega) (by simp) (fun x hx=>nomatch hx) ⟨rfl,POST.out⟩ rfl)
theorem done1_step (w:World) (p:Nat) (base most:Int) (nx:Value) (B:List Ent) (v:Int) (x:WantS) (bw:Nat) (h:Lies w p base most nx) (hs:Store w p B) (hw:⟨bw,#[.int .i64 x.kind,.int .i64 x.cell,.int .i64 x.value,.int .i64 x.code],109⟩∈B) (hF:FV B p (.done x) nx) :
   Calls Tryz.prog 209 #[.int .i64 v,.pointer (some ⟨bw,0,none⟩)] w (StepPost p base most B (x,.done x) w):=by
 have hw2:=(hs _ hw).2
 obtain ⟨⟨c0,c1,c2,c3⟩,-,hlt⟩:=box4 hw2
 have HP:=kH h
 have HF:=kH hF
 clear h hs hw hw2 hF
 go_enter Tryz.func209,Tryz.ntmps209
 go_wp2
 exact bodyPost_ret (results_cell_row rfl _ _ _ _ _ _ _ rfl (heap_new (by simp)) Tryz.underlying109 rfl infoWant) rfl ⟨rfl,grown_alloc (grown_refl _ _) _,nx,[],kO HP.out,(fun x hx=>nomatch hx),HF.out⟩
end Chn
section
open Go.RowKit
variable {w0:World} {X:List Nat} {Cs:List Comp} {w:World} {t sb:Nat} {lv:Value} {most sh:Nat} {sl:List Int} {l:List (Int×Int)}
theorem infoWr2:(Tryz.prog.info? 218).map (fun i=>(i.zero,i.size,i.bytes))=some (some (.agg #[.int .i64 0,.int .i64 0]),2,16):=by kernel_rfl
theorem Sep.rowSet {e:TypeId} {sz g n cap:Nat} {xs:List Value} (h:Sep w0 X (cRow e sz (.slice (some ⟨g,0,none⟩) n cap) n xs::Cs) w) (j:Nat) (u:Value):Sep w0 X (cRow e sz (.slice (some ⟨g,0,none⟩) n cap) n (xs.set j u)::Cs) (w.setCell ⟨g,j,none⟩ u):=by
 have hr:RowAt w e sz (.slice (some ⟨g,0,none⟩) n cap) n xs:=h.h0
 obtain ⟨h1,h2⟩:=World.ownsRow.stored (w:=w) hr j u
 refine h.call1 (C3:=[cRow e sz (.slice (some ⟨g,0,none⟩) n cap) n (xs.set j u)]) ⟨(Kept.refl _ w).set (p:=⟨g,j,none⟩) (.inl (by simp [cRow,rowF])) u,fun c hc=>by rw [List.mem_singleton.1 hc];exact h1,by simp [feet,cRow,rowF],fun x hx=>.inl (by simpa [feet,cRow,rowF] using hx)⟩
theorem map_same {l:List (Int×Int)} {c v:Int} (h:c ∉ l.map (·.1)):l.map (fun w=>if w.1=c then (c,v) else w)=l:=by
 induction l with
 | nil=>rfl
 | cons y l ih =>
   rw [List.map_cons] at h ⊢
   rw [List.mem_cons,not_or] at h
   rw [if_neg (fun e=>h.1 e.symm),ih h.2]
theorem wcells_map:∀ (l:List (Int×Int)) (i:Nat) (c v u:Int),l[i]?=some (c,u)→(l.map (·.1)).Nodup→(wcells l).set (i * 2+1) (.int .i64 v)=wcells (l.map (fun w=>if w.1=c then (c,v) else w))
 | [],i,c,v,u,h,_=>by simp at h
 | y::l,0,c,v,u,h,hd=>by
   simp at h
   subst h
   rw [List.map_cons,List.nodup_cons] at hd
   rw [List.map_cons,if_pos rfl,map_same hd.1]
   rfl
 | y::l,i+1,c,v,u,h,hd=>by
   rw [List.map_cons,List.nodup_cons] at hd
   have hne:y.1≠c:=fun e=>hd.1 (List.mem_map.2 ⟨(c,u),List.mem_of_getElem? (by simpa using h),e.symm⟩)
   have ih:=wcells_map l i c v u (by simpa using h) hd.2
   rw [List.map_cons,if_neg hne]
   have e1:wcells (y::l)=.int .i64 y.1::.int .i64 y.2::wcells l:=rfl
   have e2:∀ m,wcells (y::m)=.int .i64 y.1::.int .i64 y.2::wcells m:=fun _=>rfl
   rw [e1,e2,← ih,show (i+1) * 2+1=i * 2+1+1+1 by omega]
   rfl
theorem own_none {l:List (Int×Int)} {c:Int} (h:c ∉ l.map (·.1)):ownT l c=none:=by
 unfold ownT
 rw [Option.map_eq_none_iff,List.find?_eq_none]
 intro x hx hxc
 exact h (List.mem_map.2 ⟨x,hx,by simpa using hxc⟩)
theorem own_at {l:List (Int×Int)} {c u:Int}:∀ {i:Nat},l[i]?=some (c,u)→(l.map (·.1)).Nodup→ownT l c=some u:=by
 induction l with
 | nil=>intro i h;simp at h
 | cons y l ih =>
   intro i h hd
   rw [List.map_cons,List.nodup_cons] at hd
   unfold ownT
   cases i with
   | zero =>
     simp at h
     subst h
     simp
   | succ i =>
     have hne:y.1≠c:=fun e=>hd.1 (List.mem_map.2 ⟨(c,u),List.mem_of_getElem? (by simpa using h),e.symm⟩)
     rw [List.find?_cons_of_neg (by simpa using hne)]
     exact ih (by simpa using h) hd.2
def getV:Option Int→Value
 | some v=>.tuple #[.int .i64 v,.bool true]
 | none=>.tuple #[.int .i64 0,.bool false]
theorem Get_tab (hS:Sep w0 X (tabC t sb most lv sh sl l Cs) w) (hr:TabR most sh sl l) (hd:(l.map (·.1)).Nodup) (c:Int) (hc:0≤c∧c≤1024) :
   Calls Tryz.prog 108 #[ptr t,.int .i64 c] w (fun e w'=>e=.returned (getV (ownT l c))∧Sep w0 X (tabC t sb most lv sh sl l Cs) w'):=by
 have HF:=kH (find_tab hS hr c hc)
 have HR:=kH hr
 have hc0:0≤c:=hc.1
 have hd0:decide (c < 0)=false:=by simp;omega
 generalize ho:ownT l c=o
 have HO:=kH ho
 clear hS hr ho
 unfold ptr at *
 go_enter Tryz.func108,Tryz.ntmps108
 go_wp2_with fail
 refine HF.out.mono ?_
 rintro e w1 ⟨k,b,rfl,hf,S1⟩
 have HS1:=kH S1
 cases hf with
 | yes hk hv hi =>
   rename_i i
   unfold tabC at S1
   have c1:=S1.cell 1
   have c2:=S1.cell 2
   have bk:=S1.cell1 k
   simp only [tabO,gA,gZ,gS] at c1 c2
   rw [intsA_at sl k hk,hv] at bk
   have hil:i < l.length:=by have:=(List.getElem?_eq_some_iff.1 hi).1;simpa using this
   have hrow:RowAt w1 _ _ _ _ _:=S1.h2
   obtain ⟨g,cap,rfl,hcap,hcm,hgl,-,hcell,-⟩:=hrow.read (by omega)
   obtain ⟨d0,u,hu,d1⟩:=wcell_at hcell hi
   have hown:o=some u:=HO.out.symm.trans (own_at hu hd)
   have HOW:=kH hown
   have hlc:l.length≤24:=by have:=HR.out.few;have:=HR.out.mosts;omega
   have hkl:k < sl.length:=hk
   have hs64:=HR.out.sizes.2.2.2.1
   clear S1 hrow hcell hi hu hown hv hd hk
   unfold maxLen at hcm
   go_wp2_with fail
   go_quiet (fail)
   go_wp2
   go_ret2
   exact ⟨by rw [HOW.out];rfl,HS1.out.drewN _⟩
 | no hk hv hno hd' =>
   have hown:o=none:=HO.out.symm.trans (own_none hno)
   have HOW:=kH hown
   clear S1 hk hv hno hd' hown hd
   go_wp2
   go_ret2
   exact ⟨by rw [HOW.out];rfl,HS1.out⟩
def PutPost (w0:World) (X:List Nat) (Cs:List Comp) (t sb most sh:Nat) (l:List (Int×Int)) (c v:Int) (e:Ending) (w':World):Prop :=
 (e=.returned (.int .i64 0)∧¬ ((ownT l c).isNone=true∧l.length=most)∧∃ lv sl,TabR most sh sl (putT l c v)∧Sep w0 X (tabC t sb most lv sh sl (putT l c v) Cs) w') ∨
 (e=.returned (.int .i64 2)∧((ownT l c).isNone=true∧l.length=most)∧∃ lv sl,TabR most sh sl l∧Sep w0 X (tabC t sb most lv sh sl l Cs) w')
theorem own_some_not {l:List (Int×Int)} {c u:Int} (h:ownT l c=some u):(ownT l c).isNone=false:=by rw [h];rfl
theorem wcells_add (l:List (Int×Int)) (c v:Int):wcells l++[.int .i64 c,.int .i64 v]=wcells (l++[(c,v)]):=by
 unfold wcells
 rw [List.flatMap_append]
 rfl
theorem Put_tab (hS:Sep w0 X (tabC t sb most lv sh sl l Cs) w) (hr:TabR most sh sl l) (hd:(l.map (·.1)).Nodup) (c v:Int) (hc:0≤c∧c < 1024) (hv64:I64 v) :
   Calls Tryz.prog 111 #[ptr t,.int .i64 c,.int .i64 v] w (PutPost w0 X Cs t sb most sh l c v):=by
 obtain ⟨i0,yi,yz0,yz1,yz2⟩:=info_parts infoWr2
 have HF:=kH (find_tab hS hr c ⟨hc.1,by omega⟩)
 have HR:=kH hr
 have HC:=kH hc
 have HV:=kH hv64
 obtain ⟨hc0,hc1⟩:=hc
 have hd0:decide (c < 0)=false:=by simp;omega
 have hd1:decide (1024≤c)=false:=by simp;omega
 clear hS hr hv64
 unfold ptr at *
 go_enter Tryz.func111,Tryz.ntmps111
 go_wp2_with fail
 refine HF.out.mono ?_
 rintro e w1 ⟨k,b,rfl,hf,S1⟩
 have HS1:=kH S1
 have hlc:l.length≤24:=by have:=HR.out.few;have:=HR.out.mosts;omega
 have hs64:=HR.out.sizes.2.2.2.1
 cases hf with
 | yes hk hv hi =>
   rename_i i
   unfold tabC at S1
   have c1:=S1.cell 1
   have c2:=S1.cell 2
   have bk:=S1.cell1 k
   simp only [tabO,gA,gZ,gS] at c1 c2
   rw [intsA_at sl k hk,hv] at bk
   have hil:i < l.length:=by have:=(List.getElem?_eq_some_iff.1 hi).1;simpa using this
   have hrow:RowAt w1 _ _ _ _ _:=S1.h2
   obtain ⟨g,cap,rfl,hcap,hcm,hgl,-,hcell,hfz⟩:=hrow.read (by omega)
   obtain ⟨d0,u,hu,d1⟩:=wcell_at hcell hi
   have hf1:=hfz (i * 2+1)
   have HOW:=kH (own_at hu hd)
   have HWM:=kH (wcells_map l i c v u hu hd)
   have hkl:k < sl.length:=hk
   clear S1 hrow hcell hi hu hv hd hk hfz
   unfold maxLen at hcm
   go_wp2_with fail
   go_region
   all_goals
     go_wp2
     go_ret
     refine .inl ⟨rfl,fun h=>?_,?_⟩
     · have:=h.1
       rw [own_some_not HOW.out] at this
       simp at this
     · have hput:putT l c v=l.map (fun w=>if w.1=c then (c,v) else w):=putT_some (own_some_not HOW.out)
       have S2:=(show Sep w0 X (cWr _ l::cBlk t _::cBlk sb _::Cs) w1 from HS1.out.f2).rowSet (i * 2+1) (.int .i64 v)
       rw [HWM.out] at S2
       refine ⟨.slice (some ⟨g,0,none⟩) l.length cap,sl,?_,?_⟩
       · rw [hput]
         have h:=HR.out
         refine ⟨by rw [map_fst_same];exact h.ok,h.wide,h.lens,h.mosts,by rw [List.length_map];exact h.few,fun y hy=>?_⟩
         obtain ⟨z,hz,rfl⟩:=List.mem_map.1 hy
         split
         · exact ⟨HC.out.1,HC.out.2,HV.out⟩
         · exact h.cells z hz
       · rw [hput]
         have S3:Sep w0 X (tabC t sb most (.slice (some ⟨g,0,none⟩) l.length cap) sh sl (l.map (fun w=>if w.1=c then (c,v) else w)) Cs) (w1.setCell ⟨g,i * 2+1,none⟩ (.int .i64 v)):=by
           unfold tabC cWr
           rw [List.length_map]
           exact S2.b2
         first | exact S3 | exact S3.drew
 | no hk hv hno hd' =>
   have hnone:(ownT l c).isNone=true:=by rw [own_none hno];rfl
   have HNO:=kH hnone
   have HPUT:=kH (putT_none (v:=v) (find_none hnone))
   have HFN:=kH (Found.no (sh:=sh) hk hv hno hd')
   have HHD:=kH hd
   have S1u:=S1
   unfold tabC at S1u
   have c0:=S1u.cell 0
   have c1:=S1u.cell 1
   have c2:=S1u.cell 2
   have f2:=S1u.froz 2
   have bk:=S1u.cell1 k
   have fk:=S1u.froz1 k
   have htb:=S1u.ne01
   have htl:=heap_lt S1u.h0
   have hsbl:=heap_lt S1u.h1
   simp only [tabO,gA,gZ,gS] at c0 c1 c2
   rw [intsA_at sl k hk] at bk
   have hrow:RowAt w1 _ _ _ _ _:=S1u.h2
   obtain ⟨la,lc,hlv,hlcap,hlm⟩:=hrow.slice
   have HROW:=kH hrow
   have HLV:=kH hlv
   have hkl:k < sl.length:=hk
   rw [hlv] at c2
   generalize hln:l.length=ln at *
   have HLN:=kH hln
   clear hnone hk hv hno hd' hd S1 S1u hrow hlv hln
   by_cases hfull:ln=most
   · have hfb:((ln:Int) == (most:Int))=true:=by simp;omega
     have HFU:=kH hfull
     clear hfull
     go_wp2_with fail
     go_quiet (fail)
     go_wp2
     go_ret
     exact .inr ⟨rfl,⟨HNO.out,by rw [HLN.out];exact HFU.out⟩,lv,sl,HR.out,HS1.out.drewN _⟩
   · have hfb:((ln:Int) == (most:Int))=false:=by simp;omega
     have HFU:=kH hfull
     have hlt:ln < most:=by have:=HR.out.few;rw [HLN.out] at this;omega
     clear hfull
     go_wp2_with fail
     go_quiet (fail)
     go_wp2_with fail
     go_region
     have S2:=(show Sep w0 X (cBlk t (tabO most sb sl.length lv sh)::cBlk sb (slotO sl)::cWr lv l::Cs) _ from HS1.out.drewN (nq+1)).set1 k (.int .i64 (ln:Nat))
     have S3:Sep w0 X (cRow 218 2 (.slice la ln lc) ln (wcells l)::cBlk t (tabO most sb sl.length (.slice la ln lc) sh)::cBlk sb (.cells ((intsA sl).setIfInBounds k (.int .i64 (ln:Nat))) 3 (0,0))::Cs) ((w1.drewN (nq+1)).setCell ⟨sb,k,none⟩ (.int .i64 (ln:Nat))):=by
       have h:=S2.f2
       unfold cWr at h
       rw [HLV.out,HLN.out] at h
       exact h
     have HS3:=kH S3
     clear S2 S3
     go_wp2_with (at_builtin;refine wpList_append_lies _ rfl (.tmp 65) (.tmp 69) 165 rfl 0 218 i0 _ 2 16 Tryz.underlying165 yi yz0 yz1 yz2 rfl (by decide) (.slice la ln lc) ln (wcells l) rfl (World.ownsRow.alloc HS3.out.h0 _) ⟨w1.heap.size,0,none⟩ 1 1 [.int .i64 c,.int .i64 v] rfl rfl (fun j u hu=>new_cell (w:=((w1.drewN (nq+1)).setCell ⟨sb,k,none⟩ (.int .i64 (ln:Nat))).alloc (.cells #[.int .i64 c,.int .i64 v] 218 (0,0))) (heap_new_at (w:=(w1.drewN (nq+1)).setCell ⟨sb,k,none⟩ (.int .i64 (ln:Nat))) (by simp)) j u hu) (by simp [Value.oneCell']) (by decide) (by unfold maxLen;omega) (by omega) (Nat.zero_le _) _ rfl ?_;intro g cap w5 hown5 hgrow5 hat5 hgl5;have S5:=(HS3.out.alloc _).append hgrow5 hown5 hat5 (Nat.le_refl _);have t2:=S5.cell1 2;have tf2:=S5.froz1 2;simp only [gA,gZ,gS] at t2;have HS5:=kH S5;clear S5 hown5 hgrow5 hat5 hgl5)
     go_ret
     have hR:=HR.out
     have hz:=hR.sizes
     have hroom:l.length+1 < sl.length:=by
       have h1:=widthT_room hR.mosts.2
       rw [← hR.lens] at h1
       rw [HLN.out]
       omega
     refine .inl ⟨rfl,(fun h=>HFU.out (by rw [← HLN.out];exact h.2)),.slice (some ⟨g,0,none⟩) (ln+1) cap,sl.set k (ln:Nat),?_,?_⟩
     · rw [HPUT.out]
       refine ⟨?_,hR.wide,by rw [List.length_set];exact hR.lens,hR.mosts,by rw [List.length_append,List.length_singleton,HLN.out];omega,fun y hy=>?_⟩
       · have h:=tab_add hR.ok HFN.out (by rw [List.length_map];exact hroom)
         rw [List.length_map,HLN.out] at h
         rw [List.map_append]
         exact h
       · rcases List.mem_append.1 hy with hy | hy
         · exact hR.cells y hy
         · rw [List.mem_singleton.1 hy];exact ⟨HC.out.1,HC.out.2,HV.out⟩
     · have S6:=(HS5.out.set1 2 (.slice (some ⟨g,0,none⟩) (ln+1) cap)).b2
       rw [HPUT.out]
       unfold tabC cWr slotO
       rw [List.length_set,List.length_append,List.length_singleton,HLN.out,← wcells_add,← intsA_set]
       exact S6
end
section
open Go.RowKit
variable {w0:World} {X:List Nat} {Cs:List Comp} {w:World} {t sb:Nat} {lv:Value} {most sh:Nat} {sl:List Int} {l:List (Int×Int)}
def clrd (sl:List Int) (k:Nat):List Int:=List.replicate k (-1)++sl.drop k
theorem clrd_length (sl:List Int) (k:Nat) (h:k≤sl.length):(clrd sl k).length=sl.length:=by simp [clrd];omega
theorem clrd_set (sl:List Int) (k:Nat) (h:k < sl.length):(clrd sl k).set k (-1)=clrd sl (k+1):=by
 unfold clrd
 rw [List.set_append_right _ _ (by simp)]
 simp only [List.length_replicate,Nat.sub_self]
 rw [List.drop_eq_getElem_cons h,List.set_cons_zero,List.replicate_succ',List.append_assoc]
 rfl
theorem clrd_all (sl:List Int):clrd sl sl.length=List.replicate sl.length (-1):=by simp [clrd]
theorem Clear_tab (hS:Sep w0 X (tabC t sb most lv sh sl l Cs) w) (hN:sl.length≤64) :
   Calls Tryz.prog 169 #[ptr t] w (fun e w'=>e=.returned (.tuple #[])∧Sep w0 X (tabC t sb most (.slice none 0 0) sh (List.replicate sl.length (-1)) [] Cs) w'):=by
 unfold tabC at hS
 have c1:=hS.cell 1
 have c2:=hS.cell 2
 have f2:=hS.froz 2
 simp only [tabO,gA,gZ,gS] at c1 c2
 have S1:Sep w0 X (cBlk t (tabO most sb sl.length (.slice none 0 0) sh)::cBlk sb (slotO sl)::cWr lv l::Cs) (w.setCell ⟨t,2,none⟩ (.slice none 0 0)):=hS.set 2 (.slice none 0 0)
 have S2:Sep w0 X (cWr (.slice none 0 0) []::cBlk t (tabO most sb sl.length (.slice none 0 0) sh)::cBlk sb (slotO sl)::Cs) _:=(S1.f2.drop).nilRow _ _
 have HS2:=kH S2.b2
 have htl:=heap_lt hS.h0
 generalize hn:sl.length=n at *
 have HN:=kH hn
 clear hS S1 S2 hn
 unfold ptr
 go_enter Tryz.func169,Tryz.ntmps169
 go_wp2_with fail
 go_loopg [13] n (fun nn v13 wr=>∃ k:Nat,k≤n∧v13=.int .i64 k∧nn+k=n∧Sep w0 X (cBlk t (tabO most sb n (.slice none 0 0) sh)::cBlk sb (slotO (clrd sl k))::cWr (.slice none 0 0) []::Cs) wr)
 case atStart=>exact ⟨0,Nat.zero_le _,rfl,by omega,by have h:=HS2.out;simpa [clrd] using h⟩
 case round =>
   obtain ⟨k,hk,rfl,hn,S⟩:=hrel
   have HNN:=kH hn
   have HSR:=kH S
   have b1:=S.cell 1
   simp only [tabO,gA,gZ,gS] at b1
   by_cases hkn:k < n
   · have bk:=S.cell1 k
     have fk:=S.froz1 k
     rw [intsA_at _ k (by rw [clrd_length _ _ (by rw [HN.out];exact hk),HN.out];exact hkn)] at bk
     have hst:=HSR.out.set1 k (.int .i64 (-1))
     rw [intsA_set,clrd_set sl k (by rw [HN.out];exact hkn)] at hst
     have HST:=kH hst
     clear S hn hst
     go_wp2
     go_roundg (n - (k+1))
     case measure=>have:=HNN.out;omega
     case rel=>exact ⟨k+1,by omega,by go_num,by have:=HNN.out;omega,HST.out⟩
   · have hke:k=n:=by omega
     subst hke
     clear S hn
     go_wp2
     go_end0
     refine ⟨rfl,?_⟩
     have h:=HSR.out
     have e:clrd sl k=List.replicate k (-1):=by
       have:=clrd_all sl
       rw [HN.out] at this
       exact this
     rw [e] at h
     unfold tabC
     rw [List.length_replicate]
     exact h
theorem width_len:∀ m:Nat,m < 25→1≤m→Lib.bitLen (2 * m - 1)=widthT m:=by decide
theorem made_ints (n:Nat):madeCells #[.int .i64 0] n=intsA (List.replicate n 0):=by
 apply Array.ext'
 rw [toList_madeCells_one]
 simp [intsA]
theorem infoInt:(Tryz.prog.info? 3).map (fun i=>(i.zero,i.size,i.bytes))=some (some (.int .i64 0),1,8):=by kernel_rfl
theorem mk_ints (n:Nat) (L:Int) (hL:L=n) (hn:n≤1000) (w:World):(Instr.makeSlice 29 (.int .i64 L) (.int .i64 L)).run Tryz.prog w=.ok (.slice (some ⟨w.heap.size,0,none⟩) n n) (w.alloc (.cells (intsA (List.replicate n 0)) 3)):=by
 subst hL
 obtain ⟨i0,hi,hz0,hz1,hz2⟩:=info_parts infoInt
 have h:=run_make (P:=Tryz.prog) (w:=w) 29 3 i0 (.int .i64 0) Tryz.underlying29 hi hz0 .i64 .i64 n n (by omega) (by omega) (by rw [hz2];omega) (by omega)
 rw [hz1,Int.toNat_natCast,Nat.mul_one] at h
 rw [← made_ints]
 exact h
theorem New_tab (hS:Sep w0 X Cs w) (m:Nat) (hm:1≤m∧m≤24) :
   Calls Tryz.prog 107 #[.int .i64 m] w (fun e w'=>∃ t sb sl,e=.returned (.tuple #[ptr t,.int .i64 0])∧TabR m (64 - widthT m) sl []∧Sep w0 X (tabC t sb m (.slice none 0 0) (64 - widthT m) sl [] Cs) w'):=by
 have HS:=kH hS
 obtain ⟨hm1,hm2⟩:=hm
 have hw:=widthT_le m
 have hbl:Lib.bitLen ((2 * (m:Int) - 1).toNat)=widthT m:=by
   have:(2 * (m:Int) - 1).toNat=2 * m - 1:=by omega
   rw [this]
   exact width_len m (by omega) hm1
 have HL:=kH (fun w=>Tryz.bits_Len (2 * (m:Int) - 1) w (by omega) (by omega))
 rw [hbl] at HL
 have hroom:=widthT_room hm2
 generalize hwd:widthT m=wd at *
 have HWD:=kH hwd
 have hN64:2 ^ wd≤64:=by
   rcases (show wd=1∨wd=2∨wd=3∨wd=4∨wd=5∨wd=6 by omega) with rfl | rfl | rfl | rfl | rfl | rfl <;> decide
 have hwr:wrap64 (2 ^ wd)=((2 ^ wd:Nat):Int):=by
   have h:((2 ^ wd:Nat):Int)=(2:Int) ^ wd:=by simp
   rw [← h]
   unfold wrap64
   omega
 have hmk:=fun w=>mk_ints (2 ^ wd) (wrap64 (2 ^ wd)) hwr (by omega) w
 have hsub:IntKind.u64.wrap (64 - (wd:Int))=((64 - wd:Nat):Int):=by rw [IntKind.wrap_u64];omega
 have hsub2:(64:Int) - (wd:Int)=((64 - wd:Nat):Int):=by omega
 generalize hNN:2 ^ wd=N at *
 have HNN:=kH hNN
 have HSUB:=kH hsub2
 generalize 64 - wd=sh at *
 have hN0:0 < N:=by omega
 clear hS hbl hwd hwr hNN hsub2
 go_enter Tryz.func107,Tryz.ntmps107
 go_wp2_with fail
 refine (HL.out _).mono ?_
 rintro e w1 ⟨rfl,rfl⟩
 go_wp2_with fail
 have S1:=(HS.out.new (slotO (List.replicate N 0))).new (tabO m w1.heap.size N (.slice none 0 0) sh)
 have S2:=(S1.nilRow 218 2).b2
 have hl0:(List.replicate N (0:Int)).length=N:=by simp
 have S3:Sep w0 X (tabC (w1.heap.size+1) w1.heap.size m (.slice none 0 0) sh (List.replicate N 0) [] Cs) ((w1.alloc (slotO (List.replicate N 0))).alloc (tabO m w1.heap.size N (.slice none 0 0) sh)):=by
   unfold tabC
   rw [hl0]
   have e:(w1.alloc (slotO (List.replicate N 0))).heap.size=w1.heap.size+1:=by simp
   rw [e] at S2
   exact S2
 refine (Clear_tab S3 (by rw [hl0];exact hN64)).mono ?_
 rintro e w2 ⟨rfl,S4⟩
 have HS4:=kH S4
 clear S1 S2 S3 S4
 go_wp2
 go_ret2
 have hS4:=HS4.out
 rw [hl0] at hS4
 refine ⟨_,_,_,rfl,⟨tab_empty N sh hN0,by rw [HWD.out];have:=HSUB.out;omega,by rw [HWD.out,HNN.out];simp,⟨hm1,hm2⟩,Nat.zero_le _,fun y hy=>nomatch hy⟩,hS4⟩
end
section
open Go.RowKit
variable {w0:World} {X:List Nat} {Cs:List Comp} {w:World} {t sb:Nat} {lv:Value} {most sh:Nat} {sl:List Int} {l:List (Int×Int)}
theorem run_copy_two {P:Program} (w:World) (dT sT ty elem:TypeId) (g dLen dCap:Nat) (a:Addr) (sLen sCap:Nat) (cur:Array Value) (t:TypeId) (cs:List Value)
   (hu:P.underlying dT=some (.slice elem)) (hs:(P.info? elem).map (·.size)=some 2)
   (hg:w.heap[g]?=some (.cells cur t (0,0))) (hn:cs.length=Nat.min sLen dLen * 2)
   (hsrc:∀ j v,cs[j]?=some v→w.cell? (a.add j)=some v) (hfit:cs.length≤cur.size) (h1:∀ v∈cs,v.oneCell'=true) :
   (Builtin.copy_ #[dT,sT] ty #[.slice (some ⟨g,0,none⟩) dLen dCap,.slice (some a) sLen sCap]).run P w =
     .ok (goInt (Nat.min sLen dLen)) (w.setRow g (cur.toList.take 0++cs++cur.toList.drop (0+cs.length)).toArray):=by
 have hl:=run_loadCells_list (P:=P) w a cs hsrc
 have hst:=run_storeCells_at P g 0 t cs 0 cur w hg (by simpa using hfit) h1
 cases hq:P.info? elem with
 | none=>simp [hq] at hs
 | some i =>
   have hi:i.size=2:=by simpa [hq] using hs
   rw [hn] at hl
   simp [Builtin.copy_,run_underlying hu,Builtin.lenOf,Builtin.firstCells,sizeOf,typeInfo,hq,hi,hl,hst]
theorem run_copy_none {P:Program} (w:World) (dT sT ty elem:TypeId) (g dCap sCap:Nat) (a:Option Addr)
   (hu:P.underlying dT=some (.slice elem)) (hs:(P.info? elem).map (·.size)=some 2) :
   (Builtin.copy_ #[dT,sT] ty #[.slice (some ⟨g,0,none⟩) 0 dCap,.slice a 0 sCap]).run P w=.ok (goInt 0) w:=by
 cases hq:P.info? elem with
 | none=>simp [hq] at hs
 | some i =>
   have hi:i.size=2:=by simpa [hq] using hs
   cases a <;> simp [Builtin.copy_,run_underlying hu,Builtin.lenOf,Builtin.firstCells,sizeOf,typeInfo,hq,hi,loadCells,loadCellsFrom,storeCells]
theorem copy_wr {W:World} {g:Nat} {cur:Array Value} (h:Sep w0 X (cBlk g (.cells cur 218 (0,0))::cWr lv l::Cs) W) (hc:cur.size=l.length * 2) (hl:l.length≤maxLen) :
   ∃ W',(Builtin.copy_ #[165,165] 3 #[.slice (some ⟨g,0,none⟩) l.length l.length,lv]).run Tryz.prog W=.ok (goInt l.length) W' ∧
     Sep w0 X (cWr (.slice (some ⟨g,0,none⟩) l.length l.length) l::cWr lv l::Cs) W':=by
 have hr:RowAt W 218 2 lv l.length (wcells l):=h.h1
 have fin:∀ (cur':Array Value) (W':World),cur'.size=l.length * 2→cur'.toList=wcells l→Sep w0 X (cBlk g (.cells cur' 218 (0,0))::cWr lv l::Cs) W' →
     Sep w0 X (cWr (.slice (some ⟨g,0,none⟩) l.length l.length) l::cWr lv l::Cs) W':=fun cur' W' h1 h2 hS=>by
   have hb:W'.heap[g]?=some (.cells cur' 218 (0,0)):=hS.h0
   refine hS.call1 (C3:=[cWr (.slice (some ⟨g,0,none⟩) l.length l.length) l]) ⟨Kept.refl _ _,fun c hc=>?_,by simp [feet,cWr,cRow,rowF],fun x hx=>?_⟩
   · rw [List.mem_singleton.1 hc]
     refine ⟨by rw [wcells_length],.inr ⟨g,l.length,cur',rfl,Nat.zero_le _,hb,Nat.le_refl _,hl,h1,?_⟩⟩
     rw [← h2]
     exact List.take_of_length_le (by simp [h1])
   · simp [feet,cWr,cRow,rowF] at hx
     exact .inl (by simp [cBlk,hx])
 by_cases hn:l.length=0
 · obtain ⟨_,a,c,rfl⟩:=RowAt.nil0 (hn ▸ hr)
   have hl0:l=[]:=List.eq_nil_of_length_eq_zero hn
   refine ⟨W,by rw [hn];exact run_copy_none W _ _ _ 218 g 0 c a Tryz.underlying165 (by kernel_rfl),fin cur W hc ?_ h⟩
   rw [hl0] at hc ⊢
   exact List.eq_nil_of_length_eq_zero (by simpa using hc)
 · obtain ⟨gs,cap,rfl,h1,h2,h3,h4,h5,h6⟩:=hr.read (by omega)
   have hb:W.heap[g]?=some (.cells cur 218 (0,0)):=h.h0
   have hrun:=run_copy_two (P:=Tryz.prog) W 165 165 3 218 g l.length l.length ⟨gs,0,none⟩ l.length cap cur _ (wcells l) Tryz.underlying165 (by kernel_rfl) hb
     (by rw [wcells_length];simp) (fun j v hj=>hr.cells (g:=gs) rfl j v hj) (by rw [wcells_length,hc];exact Nat.le_refl _) (fun v hv=>by
       unfold wcells at hv
       obtain ⟨y,_,hy⟩:=List.mem_flatMap.1 hv
       simp at hy
       rcases hy with rfl | rfl <;> rfl)
   rw [show Nat.min l.length l.length=l.length from Nat.min_self _] at hrun
   refine ⟨_,hrun,fin _ _ ?_ ?_ (h.chg (o':=.cells _ _ (0,0)) ?_ (setRow_heap W g cur _ _ _ hb))⟩
   · simp [wcells_length,hc]
   · have hz:cur.toList.drop (l.length * 2)=[]:=by rw [List.drop_eq_nil_iff];simp [hc]
     simp [wcells_length,hz]
   · exact ⟨rfl,rfl,rfl,by simp,fun k _ hk=>setRow_other W g k _ (fun e=>hk (by simp [e]))⟩
theorem infoWr3:(Tryz.prog.info? 218).map (fun i=>(i.zero,i.size,i.bytes))=some (some (.agg #[.int .i64 0,.int .i64 0]),2,16):=by kernel_rfl
theorem mk_wr (n:Nat) (hn:n≤1000) (w:World):(Instr.makeSlice 165 (.int .i64 n) (.int .i64 n)).run Tryz.prog w=.ok (.slice (some ⟨w.heap.size,0,none⟩) n n) (w.alloc (.cells (madeCells #[.int .i64 0,.int .i64 0] (n * 2)) 218)):=by
 obtain ⟨i0,hi,hz0,hz1,hz2⟩:=info_parts infoWr3
 have h:=run_make (P:=Tryz.prog) (w:=w) 165 218 i0 _ Tryz.underlying165 hi hz0 .i64 .i64 n n (by omega) (by omega) (by rw [hz2];omega) (by omega)
 rw [hz1,Int.toNat_natCast] at h
 exact h
theorem List_tab (hS:Sep w0 X (tabC t sb most lv sh sl l Cs) w) (hl:l.length≤24) :
   Calls Tryz.prog 112 #[ptr t] w (fun e w'=>∃ g,e=.returned (.slice (some ⟨g,0,none⟩) l.length l.length)∧Sep w0 X (cWr (.slice (some ⟨g,0,none⟩) l.length l.length) l::tabC t sb most lv sh sl l Cs) w'):=by
 unfold tabC at hS ⊢
 have c2:=hS.cell 2
 simp only [gA,gZ,gS] at c2
 have hr:RowAt w 218 2 lv l.length (wcells l):=hS.h2
 obtain ⟨a,c,hlv,_,hc2⟩:=hr.slice
 have S1:=(hS.new (.cells (madeCells #[.int .i64 0,.int .i64 0] (l.length * 2)) 218 (0,0))).s23
 have S2:=(S1.f3).sw
 obtain ⟨W',hrun,hfin⟩:=copy_wr S2 (by rw [size_madeCells]) (by have h24:(24:Nat)≤maxLen:=(by decide);omega)
 have hmk:=mk_wr l.length (by omega) w
 have HFIN:=kH hfin
 have hlt:=heap_lt hS.h0
 clear S1 S2 hfin hr hS
 subst hlv
 generalize l.length=n at *
 unfold ptr
 go_enter Tryz.func112,Tryz.ntmps112
 go_wp2
 go_ret
 exact ⟨_,rfl,(HFIN.out).s23.f3.sw⟩
end
section
open Go.RowKit
variable {w0:World} {X:List Nat} {Cs:List Comp} {w:World} {l:List (Int×Int)}
structure LogP where
 g:Nat
 t:Nat
 sb:Nat
 most:Nat
 lv:Value
 sl:List Int
def LogP.sh (q:LogP):Nat:=64 - widthT q.most
def LogP.R (q:LogP) (l:List (Int×Int)):Prop:=TabR q.most q.sh q.sl l
def logA (t:Nat) (s:List Int):Array Value:=#[ptr t,.int .u64 0,.int .u64 0,.int .u64 0,.int .u64 0,.int .u64 0,.int .u64 0,.int .u64 0,.int .u64 0,.int .u64 (s.getD 0 0),.int .u64 (s.getD 1 0),.int .u64 (s.getD 2 0),.int .u64 (s.getD 3 0),.int .u64 (s.getD 4 0),.int .u64 (s.getD 5 0),.int .u64 (s.getD 6 0),.int .u64 (s.getD 7 0)]
def logO (t:Nat) (s:List Int):Obj:=.cells (logA t s) 202 (0,0)
def logC (q:LogP) (s:List Int) (l:List (Int×Int)) (Cs:List Comp):List Comp:=cBlk q.g (logO q.t s)::tabC q.t q.sb q.most q.lv q.sh q.sl l Cs
variable {q:LogP} {s:List Int}
theorem Sep.tab (h:Sep w0 X (logC q s l Cs) w):Sep w0 X (tabC q.t q.sb q.most q.lv q.sh q.sl l (cBlk q.g (logO q.t s)::Cs)) w:=by
 unfold logC tabC at *
 exact h.perm ((List.Perm.swap _ _ _).trans (((List.Perm.swap _ _ _).cons _).trans (((List.Perm.swap _ _ _).cons _).cons _)))
theorem Sep.untab {t sb most sh:Nat} {lv:Value} {sl:List Int} {b:Comp} (h:Sep w0 X (tabC t sb most lv sh sl l (b::Cs)) w):Sep w0 X (b::tabC t sb most lv sh sl l Cs) w:=by
 unfold tabC at *
 exact h.perm ((((List.Perm.swap _ _ _).cons _).cons _).trans (((List.Perm.swap _ _ _).cons _).trans (List.Perm.swap _ _ _)))
theorem New_log (hS:Sep w0 X Cs w) (m:Nat) (hm:1≤m∧m≤24) :
   Calls Tryz.prog 82 #[.int .i64 m] w (fun e w'=>∃ q,e=.returned (.tuple #[ptr q.g,.int .i64 0])∧q.most=m∧LogP.R q []∧Sep w0 X (logC q zero8 [] Cs) w'):=by
 have HN:=kH (New_tab hS m hm)
 clear hS
 go_enter Tryz.func82,Tryz.ntmps82
 go_wp2_with fail
 refine HN.out.mono ?_
 rintro e w1 ⟨t,sb,sl,rfl,hR,S1⟩
 have HS1:=kH S1
 have HR:=kH hR
 clear S1 hR
 unfold ptr
 go_wp2
 go_ret2
 exact ⟨⟨w1.heap.size,t,sb,m,.slice none 0 0,sl⟩,rfl,rfl,HR.out,HS1.out.new (logO t zero8)⟩
theorem Own_log (hS:Sep w0 X (logC q s l Cs) w) (hr:q.R l) (hd:(l.map (·.1)).Nodup) (c:Int) (hc:0≤c∧c≤1024) :
   Calls Tryz.prog 86 #[ptr q.g,.int .i64 c] w (fun e w'=>e=.returned (getV (ownT l c))∧Sep w0 X (logC q s l Cs) w'):=by
 have k0:=hS.cell 0
 simp only [logA,gA,gZ,gS] at k0
 have HG:=kH (Get_tab hS.tab hr hd c hc)
 clear hS hr hd hc
 generalize ownT l c=o at *
 unfold ptr at *
 cases o
 all_goals
   go_enter Tryz.func86,Tryz.ntmps86
   go_wp2_with fail
   refine HG.out.mono ?_
   rintro e w1 ⟨rfl,S1⟩
   have HS1:=kH S1
   clear S1 k0
   unfold getV
   go_wp2
   go_ret2
   exact ⟨rfl,HS1.out.untab⟩
theorem Writes_log (hS:Sep w0 X (logC q s l Cs) w) (hl:l.length≤24) :
   Calls Tryz.prog 90 #[ptr q.g] w (fun e w'=>∃ g,e=.returned (.slice (some ⟨g,0,none⟩) l.length l.length)∧Sep w0 X (cWr (.slice (some ⟨g,0,none⟩) l.length l.length) l::logC q s l Cs) w'):=by
 have k0:=hS.cell 0
 simp only [logA,gA,gZ,gS] at k0
 have HG:=kH (List_tab hS.tab hl)
 clear hS hl
 generalize hn:l.length=n at *
 clear hn
 unfold ptr at *
 go_enter Tryz.func90,Tryz.ntmps90
 go_wp2_with fail
 refine HG.out.mono ?_
 rintro e w1 ⟨g,rfl,S1⟩
 have HS1:=kH S1
 clear S1 k0
 go_wp2
 go_ret
 refine ⟨g,rfl,?_⟩
 have h:=HS1.out
 unfold logC tabC at *
 exact h.perm ((((List.Perm.swap _ _ _).cons _).cons _ |>.cons _).trans ((((List.Perm.swap _ _ _).cons _).cons _).trans ((List.Perm.swap _ _ _).cons _)))
theorem Sig_log (hS:Sep w0 X (logC q s l Cs) w) (hs:s.length=8) :
   Calls Tryz.prog 96 #[ptr q.g] w (fun e w'=>e=.returned (sigV s)∧Sep w0 X (logC q s l Cs) w'):=by
 have hk:=fun j=>hS.cell j
 obtain ⟨a0,a1,a2,a3,a4,a5,a6,a7,ha,hva⟩:=agg8 hs
 rw [hva]
 simp only [logA,ha] at hk
 have k3:=hk 9
 have k4:=hk 10
 have k5:=hk 11
 have k6:=hk 12
 have k7:=hk 13
 have k8:=hk 14
 have k9:=hk 15
 have k10:=hk 16
 simp only [gA,gZ,gS,List.getD_cons_zero,List.getD_cons_succ] at k3 k4 k5 k6 k7 k8 k9 k10
 have HS:=kH hS
 have hlt:=heap_lt hS.h0
 clear hS hk ha hva hs
 unfold ptr at *
 go_enter Tryz.func96,Tryz.ntmps96
 go_wp2
 refine bodyPost_ret (results_cell_row rfl _ _ _ _ _ _ _ rfl (heap_new_at (w:=w) (o:=.cells #[.int .u64 a0,.int .u64 a1,.int .u64 a2,.int .u64 a3,.int .u64 a4,.int .u64 a5,.int .u64 a6,.int .u64 a7] 42 (0,0)) rfl) Tryz.underlying42 rfl infoSig) rfl ⟨rfl,?_⟩
 exact HS.out.alloc _
theorem Sep.logSet (h:Sep w0 X (logC q s l Cs) w) (b0 b1 b2 b3 b4 b5 b6 b7:Int):Sep w0 X (logC q [b0,b1,b2,b3,b4,b5,b6,b7] l Cs)
   ((((((((w.setCell ⟨q.g,9,none⟩ (.int .u64 b0)).setCell ⟨q.g,10,none⟩ (.int .u64 b1)).setCell ⟨q.g,11,none⟩ (.int .u64 b2)).setCell ⟨q.g,12,none⟩ (.int .u64 b3)).setCell ⟨q.g,13,none⟩ (.int .u64 b4)).setCell ⟨q.g,14,none⟩ (.int .u64 b5)).setCell ⟨q.g,15,none⟩ (.int .u64 b6)).setCell ⟨q.g,16,none⟩ (.int .u64 b7)):=by
 have h8:=(((((((h.set 9 (.int .u64 b0)).set 10 (.int .u64 b1)).set 11 (.int .u64 b2)).set 12 (.int .u64 b3)).set 13 (.int .u64 b4)).set 14 (.int .u64 b5)).set 15 (.int .u64 b6)).set 16 (.int .u64 b7)
 have e:((((((((logA q.t s).setIfInBounds 9 (.int .u64 b0)).setIfInBounds 10 (.int .u64 b1)).setIfInBounds 11 (.int .u64 b2)).setIfInBounds 12 (.int .u64 b3)).setIfInBounds 13 (.int .u64 b4)).setIfInBounds 14 (.int .u64 b5)).setIfInBounds 15 (.int .u64 b6)).setIfInBounds 16 (.int .u64 b7)=logA q.t [b0,b1,b2,b3,b4,b5,b6,b7]:=by
   simp [logA]
 rw [e] at h8
 exact h8
def WritePost (w0:World) (X:List Nat) (Cs:List Comp) (q:LogP) (s:List Int) (l:List (Int×Int)) (c v:Int) (e:Ending) (w':World):Prop :=
 (e=.returned (.int .i64 0)∧¬ ((ownT l c).isNone=true∧l.length=q.most)∧∃ q',q'.g=q.g∧q'.most=q.most∧LogP.R q' (putT l c v)∧Sep w0 X (logC q' (withC s c) (putT l c v) Cs) w') ∨
 (e=.returned (.int .i64 5)∧((ownT l c).isNone=true∧l.length=q.most)∧∃ q',q'.g=q.g∧q'.most=q.most∧LogP.R q' l∧Sep w0 X (logC q' s l Cs) w')
theorem Write_log (hS:Sep w0 X (logC q s l Cs) w) (hr:q.R l) (hd:(l.map (·.1)).Nodup) (hs:SigOk s) (c v:Int) (hc:0≤c∧c < 1024) (hv:I64 v) :
   Calls Tryz.prog 89 #[ptr q.g,.int .i64 c,.int .i64 v] w (WritePost w0 X Cs q s l c v):=by
 have k0:=hS.cell 0
 simp only [logA,gA,gZ,gS] at k0
 have HP:=kH (Put_tab hS.tab hr hd c v hc hv)
 have HW:=kH (With_calls s c hs)
 obtain ⟨r0,r1,r2,r3,r4,r5,r6,r7,hq,hv⟩:=agg8 hs.1
 have hall:=withC_ok hs c
 obtain ⟨a0,a1,a2,a3,a4,a5,a6,a7,ha,hva⟩:=agg8 hall.1
 rw [hv,hva] at HW
 have HA:=kH ha
 have HQ:=kH hq
 clear hS hr hd hs hc hq hv ha hva hall
 unfold ptr at *
 go_enter Tryz.func89,Tryz.ntmps89
 go_wp2_with fail
 refine HP.out.mono ?_
 rintro e w1 (⟨rfl,hne,lv,sl,hR,S1⟩ | ⟨rfl,hfull,lv,sl,hR,S1⟩)
 · have S2:Sep w0 X (logC ⟨q.g,q.t,q.sb,q.most,lv,sl⟩ s (putT l c v) Cs) w1:=S1.untab
   have hk:=fun j=>S2.cell j
   simp only [logA,HQ.out] at hk
   have k3:=hk 9
   have k4:=hk 10
   have k5:=hk 11
   have k6:=hk 12
   have k7:=hk 13
   have k8:=hk 14
   have k9:=hk 15
   have k10:=hk 16
   simp only [gA,gZ,gS,List.getD_cons_zero,List.getD_cons_succ] at k3 k4 k5 k6 k7 k8 k9 k10
   have HS2:=kH S2
   have HR:=kH hR
   have HNE:=kH hne
   clear S1 S2 hk k0 hR hne
   go_wp2_with fail
   refine (HW.out _).mono ?_
   rintro e w2 ⟨rfl,hb⟩
   have HS3:=kH (HS2.out.below hb)
   have f9:=HS3.out.froz 9
   have f10:=HS3.out.froz 10
   have f11:=HS3.out.froz 11
   have f12:=HS3.out.froz 12
   have f13:=HS3.out.froz 13
   have f14:=HS3.out.froz 14
   have f15:=HS3.out.froz 15
   have f16:=HS3.out.froz 16
   have hk:=fun j=>HS3.out.cell j
   simp only [logA,HQ.out] at hk
   have m3:=hk 9
   have m4:=hk 10
   have m5:=hk 11
   have m6:=hk 12
   have m7:=hk 13
   have m8:=hk 14
   have m9:=hk 15
   have m10:=hk 16
   simp only [gA,gZ,gS,List.getD_cons_zero,List.getD_cons_succ] at m3 m4 m5 m6 m7 m8 m9 m10
   clear hb hk k3 k4 k5 k6 k7 k8 k9 k10
   go_wp2
   go_ret
   refine .inl ⟨rfl,HNE.out,⟨q.g,q.t,q.sb,q.most,lv,sl⟩,rfl,rfl,HR.out,?_⟩
   rw [HA.out]
   exact HS3.out.logSet a0 a1 a2 a3 a4 a5 a6 a7
 · have S2:Sep w0 X (logC ⟨q.g,q.t,q.sb,q.most,lv,sl⟩ s l Cs) w1:=S1.untab
   have HS2:=kH S2
   have HR:=kH hR
   have HF:=kH hfull
   clear S1 S2 k0 hR hfull
   go_wp2
   go_ret
   exact .inr ⟨rfl,HF.out,⟨q.g,q.t,q.sb,q.most,lv,sl⟩,rfl,rfl,HR.out,HS2.out⟩
end
section
open Go.RowKit
variable {w0:World} {X:List Nat} {Cs:List Comp} {w:World} {l:List (Int×Int)} {q:LogP} {s:List Int}
theorem Sep.logClr (h:Sep w0 X (logC q s l Cs) w):Sep w0 X (logC q zero8 l Cs)
   ((((((((((((((((w.setCell ⟨q.g,1,none⟩ (.int .u64 0)).setCell ⟨q.g,2,none⟩ (.int .u64 0)).setCell ⟨q.g,3,none⟩ (.int .u64 0)).setCell ⟨q.g,4,none⟩ (.int .u64 0)).setCell ⟨q.g,5,none⟩ (.int .u64 0)).setCell ⟨q.g,6,none⟩ (.int .u64 0)).setCell ⟨q.g,7,none⟩ (.int .u64 0)).setCell ⟨q.g,8,none⟩ (.int .u64 0)).setCell ⟨q.g,9,none⟩ (.int .u64 0)).setCell ⟨q.g,10,none⟩ (.int .u64 0)).setCell ⟨q.g,11,none⟩ (.int .u64 0)).setCell ⟨q.g,12,none⟩ (.int .u64 0)).setCell ⟨q.g,13,none⟩ (.int .u64 0)).setCell ⟨q.g,14,none⟩ (.int .u64 0)).setCell ⟨q.g,15,none⟩ (.int .u64 0)).setCell ⟨q.g,16,none⟩ (.int .u64 0)):=by
 have h8:=(((((((((((((((h.set 1 (.int .u64 0)).set 2 (.int .u64 0)).set 3 (.int .u64 0)).set 4 (.int .u64 0)).set 5 (.int .u64 0)).set 6 (.int .u64 0)).set 7 (.int .u64 0)).set 8 (.int .u64 0)).set 9 (.int .u64 0)).set 10 (.int .u64 0)).set 11 (.int .u64 0)).set 12 (.int .u64 0)).set 13 (.int .u64 0)).set 14 (.int .u64 0)).set 15 (.int .u64 0)).set 16 (.int .u64 0)
 have e:((((((((((((((((logA q.t s).setIfInBounds 1 (.int .u64 0)).setIfInBounds 2 (.int .u64 0)).setIfInBounds 3 (.int .u64 0)).setIfInBounds 4 (.int .u64 0)).setIfInBounds 5 (.int .u64 0)).setIfInBounds 6 (.int .u64 0)).setIfInBounds 7 (.int .u64 0)).setIfInBounds 8 (.int .u64 0)).setIfInBounds 9 (.int .u64 0)).setIfInBounds 10 (.int .u64 0)).setIfInBounds 11 (.int .u64 0)).setIfInBounds 12 (.int .u64 0)).setIfInBounds 13 (.int .u64 0)).setIfInBounds 14 (.int .u64 0)).setIfInBounds 15 (.int .u64 0)).setIfInBounds 16 (.int .u64 0)=logA q.t zero8:=by
   simp [logA,zero8]
 rw [e] at h8
 exact h8
theorem Clear_log (hS:Sep w0 X (logC q s l Cs) w) (hr:q.R l) :
   Calls Tryz.prog 117 #[ptr q.g] w (fun e w'=>e=.returned (.tuple #[])∧∃ q',q'.g=q.g∧q'.most=q.most∧LogP.R q' []∧Sep w0 X (logC q' zero8 [] Cs) w'):=by
 have k0:=hS.cell 0
 simp only [logA,gA,gZ] at k0
 have hz:=hr.sizes
 have HC:=kH (Clear_tab hS.tab (by have:=hz.2.2.2.1;exact this))
 have hR:LogP.R ⟨q.g,q.t,q.sb,q.most,.slice none 0 0,List.replicate q.sl.length (-1)⟩ [] :=
   ⟨tab_empty _ _ (by have:=hz.2.2.1;omega),rfl,by rw [List.length_replicate];exact hr.lens,hr.mosts,Nat.zero_le _,fun y hy=>nomatch hy⟩
 have HR:=kH hR
 clear hS hr hz hR
 unfold ptr at *
 go_enter Tryz.func117,Tryz.ntmps117
 go_wp2_with fail
 refine HC.out.mono ?_
 rintro e w1 ⟨rfl,S1⟩
 have S2:Sep w0 X (logC ⟨q.g,q.t,q.sb,q.most,.slice none 0 0,List.replicate q.sl.length (-1)⟩ s [] Cs) w1:=S1.untab
 have HS:=kH S2
 have k:=fun j=>S2.cell j
 simp only [logA] at k
 have k1:=k 1
 have k2:=k 2
 have k3:=k 3
 have k4:=k 4
 have k5:=k 5
 have k6:=k 6
 have k7:=k 7
 have k8:=k 8
 have k9:=k 9
 have k10:=k 10
 have k11:=k 11
 have k12:=k 12
 have k13:=k 13
 have k14:=k 14
 have k15:=k 15
 have k16:=k 16
 simp only [gA,gZ,gS] at k1 k2 k3 k4 k5 k6 k7 k8 k9 k10 k11 k12 k13 k14 k15 k16
 have f1:=S2.froz 1
 have f2:=S2.froz 2
 have f3:=S2.froz 3
 have f4:=S2.froz 4
 have f5:=S2.froz 5
 have f6:=S2.froz 6
 have f7:=S2.froz 7
 have f8:=S2.froz 8
 have f9:=S2.froz 9
 have f10:=S2.froz 10
 have f11:=S2.froz 11
 have f12:=S2.froz 12
 have f13:=S2.froz 13
 have f14:=S2.froz 14
 have f15:=S2.froz 15
 have f16:=S2.froz 16
 generalize hv9:(Value.int .u64 (s.getD 0 0))=v9 at k9
 generalize hv10:(Value.int .u64 (s.getD 1 0))=v10 at k10
 generalize hv11:(Value.int .u64 (s.getD 2 0))=v11 at k11
 generalize hv12:(Value.int .u64 (s.getD 3 0))=v12 at k12
 generalize hv13:(Value.int .u64 (s.getD 4 0))=v13 at k13
 generalize hv14:(Value.int .u64 (s.getD 5 0))=v14 at k14
 generalize hv15:(Value.int .u64 (s.getD 6 0))=v15 at k15
 generalize hv16:(Value.int .u64 (s.getD 7 0))=v16 at k16
 clear S1 S2 k k0 hv9 hv10 hv11 hv12 hv13 hv14 hv15 hv16
 go_wp2
 go_end0
 exact ⟨rfl,⟨q.g,q.t,q.sb,q.most,.slice none 0 0,List.replicate q.sl.length (-1)⟩,rfl,rfl,HR.out,HS.out.logClr⟩
def begO (b:BegD):Obj:=.cells (begA b) 204 (0,0)
theorem New_beg (hS:Sep w0 X Cs w) (size:Int) (h0:1≤size∧size≤16) :
   Calls Tryz.prog 84 #[.int .i64 size] w (fun e w'=>∃ x,e=.returned (.tuple #[ptr x,.int .i64 0])∧Sep w0 X (cBlk x (begO ⟨size,0,0,0⟩)::Cs) w'):=by
 have HS:=kH hS
 obtain ⟨h1,h2⟩:=h0
 clear hS
 go_enter Tryz.func84,Tryz.ntmps84
 go_wp2
 go_ret2
 exact ⟨w.heap.size,rfl,HS.out.new _⟩
variable {x:Nat} {b:BegD}
theorem Start_beg (hS:Sep w0 X (cBlk x (begO b)::Cs) w) (h2:b.state=2) :
   Calls Tryz.prog 93 #[ptr x] w (fun e w'=>e=.returned (.tuple #[.int .i64 b.at_,.int .i64 b.seen,.bool true])∧Sep w0 X (cBlk x (begO b)::Cs) w'):=by
 have k1:=hS.cell 1
 have k2:=hS.cell 2
 have k3:=hS.cell 3
 simp only [begA,gA,gZ,gS,h2] at k1 k2 k3
 have HS:=kH hS
 clear hS h2
 unfold ptr at *
 go_enter Tryz.func93,Tryz.ntmps93
 go_wp2_with fail
 go_quiet (fail)
 go_wp2
 go_ret3
 exact ⟨rfl,HS.out.drewN _⟩
end
end Go.Proofs.YtgfogfciobmmpaaGreatDoor
