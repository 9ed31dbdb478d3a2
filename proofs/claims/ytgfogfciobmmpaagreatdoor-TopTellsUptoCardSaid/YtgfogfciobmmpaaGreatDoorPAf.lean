/- A part of the proof of the law TopTells: ChnMachC18b Store. -/
import Derived.Test.YtgfogfciobmmpaaGreatDoorPAb
import Derived.Test.YtgfogfciobmmpaaGreatDoorPAe
set_option linter.unusedSimpArgs false
set_option linter.unusedVariables false
set_option maxRecDepth 100000
set_option maxHeartbeats 8000000
namespace Go.Proofs.YtgfogfciobmmpaaGreatDoor
namespace Chn
open Go.RowKit
theorem adds_step (w:World) (p:Nat) (base most:Int) (nx:Value) (B:List Ent) (k:Int) (cell q:Int) (st:Bool) (ky:Int) (a:Bool) (h:Lies w p base most nx) (hb:inB base most) :
   Calls Tryz.prog 164 #[.pointer (some ⟨p,0,none⟩),.int .i64 k,.agg #[.int .i64 cell,.int .i64 q,.bool st,.int .i64 ky,.bool a]] w (StepPost p base most B (addsK base k ⟨cell,q,st,ky,a⟩) w):=by
 obtain ⟨⟨c0,c1,c2⟩,f2,hlt⟩:=lies3 h
 have HP:=kH h
 have HB:=kH hb
 obtain ⟨hb0,hb1,hm0,hm1⟩:=hb
 clear h
 cases a with
 | true =>
   rw [show addsK base k ⟨cell,q,st,ky,true⟩=endK 0 3 from rfl]
   go_enter Tryz.func164,Tryz.ntmps164
   go_wp2_with fail
   refine (done_step _ p base most nx (B) (0) (3) (by first | exact HP.out | exact kO HP.out | exact kO (kO HP.out) | exact kO (kO (kO HP.out)) | exact kO (kO (kO (kO HP.out))) | exact kO (kO (kO (kO (kO HP.out)))) | exact kO (kO (kO (kO (kO (kO HP.out))))))).mono ?_
   rintro e w1 ⟨rfl,post⟩
   have hg1:=box_grown post.1 (show (World.heap _)[w.heap.size+3]?=some (.cells #[.int .i64 0,.int .i64 0,.int .i64 0,.int .i64 0] 109 (0,0)) from heap_new (by simp)) (by omega)
   obtain ⟨⟨d0,d1,d2,d3⟩,⟨g0,g1,g2,g3⟩,hz⟩:=box4 hg1
   simp only [WantS.val,endK]
   go_wp2
   exact bodyPost_ret (results_cell_row rfl _ _ _ _ _ _ _ rfl (heap_set (heap_set (heap_set (heap_set hg1)))) Tryz.underlying109 rfl infoWant) rfl (close_step (g:=w.heap.size+3) (M:=[]) (by repeat (first | exact grown_refl _ _ | refine grown_alloc ?_ _ | refine grown_drewN ?_ _ | refine grown_drew ?_)) hlt (by omega) (by simp) (fun x hx=>nomatch hx) ⟨rfl,post⟩ rfl)
 | false =>
   rw [show addsK base k ⟨cell,q,st,ky,false⟩=(readS (base+1),.addF k ⟨cell,q,st,ky,false⟩) from rfl]
   go_enter Tryz.func164,Tryz.ntmps164
   go_wp2_with fail
   refine (read_step _ p base most nx ([⟨w.heap.size,#[.pointer (some ⟨p,0,none⟩)],191⟩,⟨w.heap.size+1,#[.int .i64 k],2⟩,⟨w.heap.size+2,#[.int .i64 cell,.int .i64 q,.bool st,.int .i64 ky,.bool false],243⟩,⟨w.heap.size+4,#[.func (.func 194) #[] #[.pointer (some ⟨w.heap.size,0,none⟩),.pointer (some ⟨w.heap.size+1,0,none⟩),.pointer (some ⟨w.heap.size+2,0,none⟩)]],131⟩]++B) (.addF k ⟨cell,q,st,ky,false⟩) (1) 199 (#[]) (#[.pointer (some ⟨w.heap.size,0,none⟩),.pointer (some ⟨w.heap.size+4,0,none⟩)]) (by first | exact HP.out | exact kO HP.out | exact kO (kO HP.out) | exact kO (kO (kO HP.out)) | exact kO (kO (kO (kO HP.out))) | exact kO (kO (kO (kO (kO HP.out)))) | exact kO (kO (kO (kO (kO (kO HP.out)))))) HB.out (by omega) ⟨_,_,(List.mem_append_left _ List.mem_cons_self),⟨_,⟨_,_,_,(List.mem_append_left _ List.mem_cons_self),(List.mem_append_left _ (List.mem_cons_of_mem _ List.mem_cons_self)),(List.mem_append_left _ (List.mem_cons_of_mem _ (List.mem_cons_of_mem _ List.mem_cons_self))),rfl⟩,(List.mem_append_left _ (List.mem_cons_of_mem _ (List.mem_cons_of_mem _ (List.mem_cons_of_mem _ List.mem_cons_self))))⟩,rfl⟩).mono ?_
   rintro e w1 ⟨rfl,post⟩
   have hg1:=box_grown post.1 (show (World.heap _)[w.heap.size+3]?=some (.cells #[.int .i64 0,.int .i64 0,.int .i64 0,.int .i64 0] 109 (0,0)) from kO (heap_new (by simp))) (by omega)
   obtain ⟨⟨d0,d1,d2,d3⟩,⟨g0,g1,g2,g3⟩,hz⟩:=box4 hg1
   simp only [WantS.val]
   go_wp2
   exact bodyPost_ret (results_cell_row rfl _ _ _ _ _ _ _ rfl (heap_set (heap_set (heap_set (heap_set hg1)))) Tryz.underlying109 rfl infoWant) rfl (close_step (g:=w.heap.size+3) (M:=[⟨w.heap.size,#[.pointer (some ⟨p,0,none⟩)],191⟩,⟨w.heap.size+1,#[.int .i64 k],2⟩,⟨w.heap.size+2,#[.int .i64 cell,.int .i64 q,.bool st,.int .i64 ky,.bool false],243⟩,⟨w.heap.size+4,#[.func (.func 194) #[] #[.pointer (some ⟨w.heap.size,0,none⟩),.pointer (some ⟨w.heap.size+1,0,none⟩),.pointer (some ⟨w.heap.size+2,0,none⟩)]],131⟩]) (by repeat (first | exact grown_refl _ _ | refine grown_alloc ?_ _ | refine grown_drewN ?_ _ | refine grown_drew ?_)) hlt (by omega) (by simp) (by intro x hx;simp only [List.mem_cons,List.not_mem_nil,or_false] at hx;rcases hx with rfl | rfl | rfl | rfl <;> first | exact ⟨by simp,by simp,heap_new (by simp)⟩ | exact ⟨by simp,by simp,kO (heap_new (by simp))⟩ | exact ⟨by simp,by simp,kO (kO (heap_new (by simp)))⟩ | exact ⟨by simp,by simp,kO (kO (kO (heap_new (by simp))))⟩ | exact ⟨by simp,by simp,kO (kO (kO (kO (heap_new (by simp)))))⟩) ⟨rfl,post⟩ rfl)
theorem dels_step (w:World) (p:Nat) (base most:Int) (nx:Value) (B:List Ent) (cell q:Int) (st:Bool) (ky:Int) (a:Bool) (h:Lies w p base most nx) (hb:inB base most) (hq:a=true→leadsP most q) :
   Calls Tryz.prog 165 #[.pointer (some ⟨p,0,none⟩),.agg #[.int .i64 cell,.int .i64 q,.bool st,.int .i64 ky,.bool a]] w (StepPost p base most B (delsK base ⟨cell,q,st,ky,a⟩) w):=by
 obtain ⟨⟨c0,c1,c2⟩,f2,hlt⟩:=lies3 h
 have HP:=kH h
 have HB:=kH hb
 obtain ⟨hb0,hb1,hm0,hm1⟩:=hb
 clear h
 cases a with
 | true =>
   have hl:=hq rfl
   clear hq
   rw [show delsK base ⟨cell,q,st,ky,true⟩=(readS (base+linkI q),.delQ ⟨cell,q,st,ky,true⟩) from rfl]
   go_enter Tryz.func165,Tryz.ntmps165
   go_wp2_with fail
   refine wp_region_still_tail 5 (by kernel_rfl) (by kernel_rfl) ?_
   change wpStill _ _ (World.drew _) (fun a'=>wpList _ _ _ _ a' (World.drew _)) _ _
   simp only [List.take_succ_cons,List.take_zero,List.drop_succ_cons,List.drop_zero]
   repeat still_step
   still_call ((link_calls _ (q) (lead0 hl) (lead1 hl hm1)).mono fun _ _ h=>⟨h.1,h.2.symm⟩)
   repeat still_step
   refine wpStill_nil ?_
   go_wp2_with fail
   refine (read_step _ p base most nx ([⟨w.heap.size,#[.pointer (some ⟨p,0,none⟩)],191⟩,⟨w.heap.size+1,#[.int .i64 cell,.int .i64 q,.bool st,.int .i64 ky,.bool true],243⟩]++B) (.delQ ⟨cell,q,st,ky,true⟩) (linkI q) 204 (#[]) (#[.pointer (some ⟨w.heap.size,0,none⟩),.pointer (some ⟨w.heap.size+1,0,none⟩)]) (by first | exact HP.out | exact kO HP.out | exact kO (kO HP.out) | exact kO (kO (kO HP.out)) | exact kO (kO (kO (kO HP.out))) | exact kO (kO (kO (kO (kO HP.out)))) | exact kO (kO (kO (kO (kO (kO HP.out)))))) HB.out (linkR hl hm1) ⟨_,_,(List.mem_append_left _ List.mem_cons_self),(List.mem_append_left _ (List.mem_cons_of_mem _ List.mem_cons_self)),rfl⟩).mono ?_
   rintro e w1 ⟨rfl,post⟩
   have hg1:=box_grown post.1 (show (World.heap _)[w.heap.size+2]?=some (.cells #[.int .i64 0,.int .i64 0,.int .i64 0,.int .i64 0] 109 (0,0)) from heap_new (by simp)) (by omega)
   obtain ⟨⟨d0,d1,d2,d3⟩,⟨g0,g1,g2,g3⟩,hz⟩:=box4 hg1
   simp only [WantS.val]
   go_wp2
   exact bodyPost_ret (results_cell_row rfl _ _ _ _ _ _ _ rfl (heap_set (heap_set (heap_set (heap_set hg1)))) Tryz.underlying109 rfl infoWant) rfl (close_step (g:=w.heap.size+2) (M:=[⟨w.heap.size,#[.pointer (some ⟨p,0,none⟩)],191⟩,⟨w.heap.size+1,#[.int .i64 cell,.int .i64 q,.bool st,.int .i64 ky,.bool true],243⟩]) (by repeat (first | exact grown_refl _ _ | refine grown_alloc ?_ _ | refine grown_drewN ?_ _ | refine grown_drew ?_)) hlt (by omega) (by simp) (by intro x hx;simp only [List.mem_cons,List.not_mem_nil,or_false] at hx;rcases hx with rfl | rfl <;> first | exact ⟨by simp,by simp,heap_new (by simp)⟩ | exact ⟨by simp,by simp,kO (heap_new (by simp))⟩ | exact ⟨by simp,by simp,kO (kO (heap_new (by simp)))⟩) ⟨rfl,post⟩ rfl)
 | false =>
   rw [show delsK base ⟨cell,q,st,ky,false⟩=endK 0 1 from rfl]
   clear hq
   go_enter Tryz.func165,Tryz.ntmps165
   go_wp2_with fail
   refine (done_step _ p base most nx (B) (0) (1) (by first | exact HP.out | exact kO HP.out | exact kO (kO HP.out) | exact kO (kO (kO HP.out)) | exact kO (kO (kO (kO HP.out))) | exact kO (kO (kO (kO (kO HP.out)))) | exact kO (kO (kO (kO (kO (kO HP.out))))))).mono ?_
   rintro e w1 ⟨rfl,post⟩
   have hg1:=box_grown post.1 (show (World.heap _)[w.heap.size+2]?=some (.cells #[.int .i64 0,.int .i64 0,.int .i64 0,.int .i64 0] 109 (0,0)) from heap_new (by simp)) (by omega)
   obtain ⟨⟨d0,d1,d2,d3⟩,⟨g0,g1,g2,g3⟩,hz⟩:=box4 hg1
   simp only [WantS.val,endK]
   go_wp2
   exact bodyPost_ret (results_cell_row rfl _ _ _ _ _ _ _ rfl (heap_set (heap_set (heap_set (heap_set hg1)))) Tryz.underlying109 rfl infoWant) rfl (close_step (g:=w.heap.size+2) (M:=[]) (by repeat (first | exact grown_refl _ _ | refine grown_alloc ?_ _ | refine grown_drewN ?_ _ | refine grown_drew ?_)) hlt (by omega) (by simp) (fun x hx=>nomatch hx) ⟨rfl,post⟩ rfl)
theorem above_step (w:World) (p:Nat) (base most:Int) (nx:Value) (B:List Ent) (cell q:Int) (st:Bool) (ky:Int) (a:Bool) (h:Lies w p base most nx) (hb:inB base most) (hq:a=true→leadsP most q) :
   Calls Tryz.prog 167 #[.pointer (some ⟨p,0,none⟩),.agg #[.int .i64 cell,.int .i64 q,.bool st,.int .i64 ky,.bool a]] w (StepPost p base most B (aboveK base ⟨cell,q,st,ky,a⟩) w):=by
 obtain ⟨⟨c0,c1,c2⟩,f2,hlt⟩:=lies3 h
 have HP:=kH h
 have HB:=kH hb
 obtain ⟨hb0,hb1,hm0,hm1⟩:=hb
 clear h
 cases a with
 | true =>
   have hl:=hq rfl
   clear hq
   rw [show aboveK base ⟨cell,q,st,ky,true⟩=(readS (base+linkI q),.keyOf) from rfl]
   go_enter Tryz.func167,Tryz.ntmps167
   go_wp2_with fail
   refine (link_calls _ (q) (lead0 hl) (lead1 hl hm1)).mono ?_
   rintro e w' ⟨rfl,rfl⟩
   go_wp2_with fail
   refine (read_step _ p base most nx (B) (.keyOf) (linkI q) 158 (#[.pointer (some ⟨p,0,none⟩)]) (#[]) (by first | exact HP.out | exact kO HP.out | exact kO (kO HP.out) | exact kO (kO (kO HP.out)) | exact kO (kO (kO (kO HP.out))) | exact kO (kO (kO (kO (kO HP.out)))) | exact kO (kO (kO (kO (kO (kO HP.out)))))) HB.out (linkR hl hm1) rfl).mono ?_
   rintro e w1 ⟨rfl,post⟩
   have hg1:=box_grown post.1 (show (World.heap _)[w.heap.size+1]?=some (.cells #[.int .i64 0,.int .i64 0,.int .i64 0,.int .i64 0] 109 (0,0)) from heap_new (by simp)) (by omega)
   obtain ⟨⟨d0,d1,d2,d3⟩,⟨g0,g1,g2,g3⟩,hz⟩:=box4 hg1
   simp only [WantS.val]
   go_wp2
   exact bodyPost_ret (results_cell_row rfl _ _ _ _ _ _ _ rfl (heap_set (heap_set (heap_set (heap_set hg1)))) Tryz.underlying109 rfl infoWant) rfl (close_step (g:=w.heap.size+1) (M:=[]) (by repeat (first | exact grown_refl _ _ | refine grown_alloc ?_ _ | refine grown_drewN ?_ _ | refine grown_drew ?_)) hlt (by omega) (by simp) (fun x hx=>nomatch hx) ⟨rfl,post⟩ rfl)
 | false =>
   clear hq
   cases st with
   | true =>
     rw [show aboveK base ⟨cell,q,true,ky,false⟩=endK ky 0 from rfl]
     go_enter Tryz.func167,Tryz.ntmps167
     go_wp2_with fail
     refine (done_step _ p base most nx (B) (ky) (0) (by first | exact HP.out | exact kO HP.out | exact kO (kO HP.out) | exact kO (kO (kO HP.out)) | exact kO (kO (kO (kO HP.out))) | exact kO (kO (kO (kO (kO HP.out)))) | exact kO (kO (kO (kO (kO (kO HP.out))))))).mono ?_
     rintro e w1 ⟨rfl,post⟩
     have hg1:=box_grown post.1 (show (World.heap _)[w.heap.size+1]?=some (.cells #[.int .i64 0,.int .i64 0,.int .i64 0,.int .i64 0] 109 (0,0)) from heap_new (by simp)) (by omega)
     obtain ⟨⟨d0,d1,d2,d3⟩,⟨g0,g1,g2,g3⟩,hz⟩:=box4 hg1
     simp only [WantS.val,endK]
     go_wp2
     exact bodyPost_ret (results_cell_row rfl _ _ _ _ _ _ _ rfl (heap_set (heap_set (heap_set (heap_set hg1)))) Tryz.underlying109 rfl infoWant) rfl (close_step (g:=w.heap.size+1) (M:=[]) (by repeat (first | exact grown_refl _ _ | refine grown_alloc ?_ _ | refine grown_drewN ?_ _ | refine grown_drew ?_)) hlt (by omega) (by simp) (fun x hx=>nomatch hx) ⟨rfl,post⟩ rfl)
   | false =>
     rw [show aboveK base ⟨cell,q,false,ky,false⟩=endK 0 1 from rfl]
     go_enter Tryz.func167,Tryz.ntmps167
     go_wp2_with fail
     refine (done_step _ p base most nx (B) (0) (1) (by first | exact HP.out | exact kO HP.out | exact kO (kO HP.out) | exact kO (kO (kO HP.out)) | exact kO (kO (kO (kO HP.out))) | exact kO (kO (kO (kO (kO HP.out)))) | exact kO (kO (kO (kO (kO (kO HP.out))))))).mono ?_
     rintro e w1 ⟨rfl,post⟩
     have hg1:=box_grown post.1 (show (World.heap _)[w.heap.size+1]?=some (.cells #[.int .i64 0,.int .i64 0,.int .i64 0,.int .i64 0] 109 (0,0)) from heap_new (by simp)) (by omega)
     obtain ⟨⟨d0,d1,d2,d3⟩,⟨g0,g1,g2,g3⟩,hz⟩:=box4 hg1
     simp only [WantS.val,endK]
     go_wp2
     exact bodyPost_ret (results_cell_row rfl _ _ _ _ _ _ _ rfl (heap_set (heap_set (heap_set (heap_set hg1)))) Tryz.underlying109 rfl infoWant) rfl (close_step (g:=w.heap.size+1) (M:=[]) (by repeat (first | exact grown_refl _ _ | refine grown_alloc ?_ _ | refine grown_drewN ?_ _ | refine grown_drew ?_)) hlt (by omega) (by simp) (fun x hx=>nomatch hx) ⟨rfl,post⟩ rfl)
theorem then_step (w:World) (p:Nat) (base most:Int) (nx:Value) (B:List Ent) (call k:Int) (cell q:Int) (st:Bool) (ky:Int) (a:Bool) (bc bx bk:Nat) (h:Lies w p base most nx) (hs:Store w p B) (hb:inB base most) (hbc:IB B call bc) (hbx:XB B p bx) (hbk:VB B k bk) (hq:a=true→leadsP most q) :
   Calls Tryz.prog 163 #[.agg #[.int .i64 cell,.int .i64 q,.bool st,.int .i64 ky,.bool a],.pointer (some ⟨bc,0,none⟩),.pointer (some ⟨bx,0,none⟩),.pointer (some ⟨bk,0,none⟩)] w (StepPost p base most B (thenK base call k ⟨cell,q,st,ky,a⟩) w):=by
 obtain ⟨⟨c0,c1,c2⟩,f2,hlt⟩:=lies3 h
 have HP:=kH h
 have HB:=kH hb
 obtain ⟨hb0,hb1,hm0,hm1⟩:=hb
 obtain ⟨bc0,bcl,bcn⟩:=box_in hs hbc
 have Hbc:=kH hbc
 obtain ⟨bx0,bxl,bxn⟩:=box_in hs hbx
 have Hbx:=kH hbx
 obtain ⟨bk0,bkl,bkn⟩:=box_in hs hbk
 have Hbk:=kH hbk
 have HS:=kH hs
 clear h hs hbc hbx hbk
 have HQ:=kH hq
 clear hq
 by_cases h1:call=1
 · subst h1
   rw [show thenK base 1 k ⟨cell,q,st,ky,a⟩=addsK base k ⟨cell,q,st,ky,a⟩ from rfl]
   go_enter Tryz.func163,Tryz.ntmps163
   go_wp2_with fail
   refine (adds_step _ p base most nx B k cell q st ky a (by first | exact HP.out | exact kO HP.out | exact kO (kO HP.out) | exact kO (kO (kO HP.out)) | exact kO (kO (kO (kO HP.out))) | exact kO (kO (kO (kO (kO HP.out)))) | exact kO (kO (kO (kO (kO (kO HP.out)))))) HB.out).mono ?_
   rintro e w1 ⟨rfl,post⟩
   have hg1:=box_grown post.1 (show (World.heap _)[w.heap.size+1]?=some (.cells #[.int .i64 0,.int .i64 0,.int .i64 0,.int .i64 0] 109 (0,0)) from heap_new (by simp)) (by omega)
   obtain ⟨⟨d0,d1,d2,d3⟩,⟨g0,g1,g2,g3⟩,hz⟩:=box4 hg1
   have POST:=kH post
   clear post
   generalize addsK base k ⟨cell,q,st,ky,a⟩=r at *
   obtain ⟨⟨r0,r1,r2,r3⟩,kk⟩:=r
   simp only [WantS.val]
   go_wp2
   exact bodyPost_ret (results_cell_row rfl _ _ _ _ _ _ _ rfl (heap_set (heap_set (heap_set (heap_set hg1)))) Tryz.underlying109 rfl infoWant) rfl (close_step (g:=w.heap.size+1) (M:=[]) (by repeat (first | exact grown_refl _ _ | refine grown_alloc ?_ _ | refine grown_drewN ?_ _ | refine grown_drew ?_)) hlt (by omega) (by simp) (fun x hx=>nomatch hx) ⟨rfl,POST.out⟩ rfl)
 by_cases h4:call=4
 · subst h4
   rw [show thenK base 4 k ⟨cell,q,st,ky,a⟩=delsK base ⟨cell,q,st,ky,a⟩ from rfl]
   go_enter Tryz.func163,Tryz.ntmps163
   go_wp2_with fail
   refine (dels_step _ p base most nx B cell q st ky a (by first | exact HP.out | exact kO HP.out | exact kO (kO HP.out) | exact kO (kO (kO HP.out)) | exact kO (kO (kO (kO HP.out))) | exact kO (kO (kO (kO (kO HP.out)))) | exact kO (kO (kO (kO (kO (kO HP.out)))))) HB.out HQ.out).mono ?_
   rintro e w1 ⟨rfl,post⟩
   have hg1:=box_grown post.1 (show (World.heap _)[w.heap.size+1]?=some (.cells #[.int .i64 0,.int .i64 0,.int .i64 0,.int .i64 0] 109 (0,0)) from heap_new (by simp)) (by omega)
   obtain ⟨⟨d0,d1,d2,d3⟩,⟨g0,g1,g2,g3⟩,hz⟩:=box4 hg1
   have POST:=kH post
   clear post
   generalize delsK base ⟨cell,q,st,ky,a⟩=r at *
   obtain ⟨⟨r0,r1,r2,r3⟩,kk⟩:=r
   simp only [WantS.val]
   go_wp2
   exact bodyPost_ret (results_cell_row rfl _ _ _ _ _ _ _ rfl (heap_set (heap_set (heap_set (heap_set hg1)))) Tryz.underlying109 rfl infoWant) rfl (close_step (g:=w.heap.size+1) (M:=[]) (by repeat (first | exact grown_refl _ _ | refine grown_alloc ?_ _ | refine grown_drewN ?_ _ | refine grown_drew ?_)) hlt (by omega) (by simp) (fun x hx=>nomatch hx) ⟨rfl,POST.out⟩ rfl)
 by_cases h6:call=6
 · subst h6
   rw [show thenK base 6 k ⟨cell,q,st,ky,a⟩=hasK ⟨cell,q,st,ky,a⟩ from rfl]
   cases a with
   | true =>
     rw [show hasK ⟨cell,q,st,ky,true⟩=endK 1 0 from rfl]
     go_enter Tryz.func163,Tryz.ntmps163
     go_wp2_with fail
     refine (done_step _ p base most nx (B) (1) (0) (by first | exact HP.out | exact kO HP.out | exact kO (kO HP.out) | exact kO (kO (kO HP.out)) | exact kO (kO (kO (kO HP.out))) | exact kO (kO (kO (kO (kO HP.out)))) | exact kO (kO (kO (kO (kO (kO HP.out))))))).mono ?_
     rintro e w1 ⟨rfl,post⟩
     have hg1:=box_grown post.1 (show (World.heap _)[w.heap.size+1]?=some (.cells #[.int .i64 0,.int .i64 0,.int .i64 0,.int .i64 0] 109 (0,0)) from heap_new (by simp)) (by omega)
     obtain ⟨⟨d0,d1,d2,d3⟩,⟨g0,g1,g2,g3⟩,hz⟩:=box4 hg1
     simp only [WantS.val,endK]
     go_wp2
     exact bodyPost_ret (results_cell_row rfl _ _ _ _ _ _ _ rfl (heap_set (heap_set (heap_set (heap_set hg1)))) Tryz.underlying109 rfl infoWant) rfl (close_step (g:=w.heap.size+1) (M:=[]) (by repeat (first | exact grown_refl _ _ | refine grown_alloc ?_ _ | refine grown_drewN ?_ _ | refine grown_drew ?_)) hlt (by omega) (by simp) (fun x hx=>nomatch hx) ⟨rfl,post⟩ rfl)
   | false =>
     rw [show hasK ⟨cell,q,st,ky,false⟩=endK 0 0 from rfl]
     go_enter Tryz.func163,Tryz.ntmps163
     go_wp2_with fail
     refine (done_step _ p base most nx (B) (0) (0) (by first | exact HP.out | exact kO HP.out | exact kO (kO HP.out) | exact kO (kO (kO HP.out)) | exact kO (kO (kO (kO HP.out))) | exact kO (kO (kO (kO (kO HP.out)))) | exact kO (kO (kO (kO (kO (kO HP.out))))))).mono ?_
     rintro e w1 ⟨rfl,post⟩
     have hg1:=box_grown post.1 (show (World.heap _)[w.heap.size+1]?=some (.cells #[.int .i64 0,.int .i64 0,.int .i64 0,.int .i64 0] 109 (0,0)) from heap_new (by simp)) (by omega)
     obtain ⟨⟨d0,d1,d2,d3⟩,⟨g0,g1,g2,g3⟩,hz⟩:=box4 hg1
     simp only [WantS.val,endK]
     go_wp2
     exact bodyPost_ret (results_cell_row rfl _ _ _ _ _ _ _ rfl (heap_set (heap_set (heap_set (heap_set hg1)))) Tryz.underlying109 rfl infoWant) rfl (close_step (g:=w.heap.size+1) (M:=[]) (by repeat (first | exact grown_refl _ _ | refine grown_alloc ?_ _ | refine grown_drewN ?_ _ | refine grown_drew ?_)) hlt (by omega) (by simp) (fun x hx=>nomatch hx) ⟨rfl,post⟩ rfl)
 rw [show thenK base call k ⟨cell,q,st,ky,a⟩=aboveK base ⟨cell,q,st,ky,a⟩ from by unfold thenK;rw [if_neg h1,if_neg h4,if_neg h6]]
 have h1':(call == 1)=false:=by simpa using h1
 have h4':(call == 4)=false:=by simpa using h4
 have h6':(call == 6)=false:=by simpa using h6
 go_enter Tryz.func163,Tryz.ntmps163
 go_wp2_with fail
 refine (above_step _ p base most nx B cell q st ky a (by first | exact HP.out | exact kO HP.out | exact kO (kO HP.out) | exact kO (kO (kO HP.out)) | exact kO (kO (kO (kO HP.out))) | exact kO (kO (kO (kO (kO HP.out)))) | exact kO (kO (kO (kO (kO (kO HP.out)))))) HB.out HQ.out).mono ?_
 rintro e w1 ⟨rfl,post⟩
 have hg1:=box_grown post.1 (show (World.heap _)[w.heap.size+1]?=some (.cells #[.int .i64 0,.int .i64 0,.int .i64 0,.int .i64 0] 109 (0,0)) from heap_new (by simp)) (by omega)
 obtain ⟨⟨d0,d1,d2,d3⟩,⟨g0,g1,g2,g3⟩,hz⟩:=box4 hg1
 have POST:=kH post
 clear post
 generalize aboveK base ⟨cell,q,st,ky,a⟩=r at *
 obtain ⟨⟨r0,r1,r2,r3⟩,kk⟩:=r
 simp only [WantS.val]
 go_wp2
 exact bodyPost_ret (results_cell_row rfl _ _ _ _ _ _ _ rfl (heap_set (heap_set (heap_set (heap_set hg1)))) Tryz.underlying109 rfl infoWant) rfl (close_step (g:=w.heap.size+1) (M:=[]) (by repeat (first | exact grown_refl _ _ | refine grown_alloc ?_ _ | refine grown_drewN ?_ _ | refine grown_drew ?_)) hlt (by omega) (by simp) (fun x hx=>nomatch hx) ⟨rfl,POST.out⟩ rfl)
end Chn
section
open Go.RowKit
theorem Store_at (w:World) (p hb sb cb:Nat) (lv:Value) (m:MemD) (L:Nat) (q:Addr) (v th k i j:Int) (m':MemD) (h:MemR w p hb sb cb lv m L)
   (hw:∀ W,MemR W p hb sb cb lv m L→Calls Tryz.prog 218 #[ptr p,addrV k i j] W (WordP q W)) (hset:∀ W,MemR W p hb sb cb lv m L→SetR W p hb sb cb lv m m' L q v) (hL:L≤1073741824) :
   Calls Tryz.prog 175 #[ptr p,.int .i64 th,addrV k i j,.int .i64 v] w (fun e w'=>e=.returned (.int .i64 0)∧∃ lv',MemR w' p hb sb cb lv' m' (L+1)∧Kept (p::hb::sb::cb::rowF lv) w w'∧Fresh w.heap.size (rowF lv) (rowF lv')):=by
 obtain ⟨nl,xl,hnl,hrow⟩:=h.log
 obtain ⟨i0,yi,yz0,yz1,yz2⟩:=info_parts infoAcc
 have hlt:=h.lt
 have hR:=kH h
 have HW:=kH hw
 clear h hw
 unfold ptr addrV at *
 go_enter Tryz.func175,Tryz.ntmps175
 go_wp2_with fail
 have hR0:=hR.out.keep (w':=w.alloc (.cells #[.int .i64 k,.int .i64 i,.int .i64 j] 260 (0,0))) (fun x hx=>heap_alloc_old w _ (hlt x hx))
 refine (HW.out _ hR0).mono ?_
 rintro e w1 ⟨rfl,hb1⟩
 have hbel:Below w.heap.size w w1:=(below_alloc w _).trans (hb1.mono (by simp))
 have hR1:=hR0.keep (w':=w1) (fun x hx=>hb1.block x (by have:=hlt x hx;simp;omega))
 have hbox:=hb1.block w.heap.size (by simp)
 rw [heap_new_at rfl] at hbox
 obtain ⟨e0,e1,e2⟩:=cells3 hbox
 have hz1:=hb1.size
 simp at hz1
 have hS:=hset w1 hR1
 obtain ⟨uq,hu⟩:=hS.there
 have hqf:=hS.froz
 have hqlt:q.block < w.heap.size:=hlt _ hS.blk
 have hR2:=hS.rep
 have hK2:Kept (p::hb::sb::cb::rowF lv) w (w1.setCell q (.int .i64 v)):=(Kept.of_below hbel _).set (.inl hS.blk) _
 have hbox2:=heap_set_other (q:=q) (v:=.int .i64 v) hbox (by omega)
 obtain ⟨f0,f1,f2⟩:=cells3 hbox2
 obtain ⟨c0,c1,c2,c3,c4,hp⟩:=hR2.box
 have hrow2:=hrow.keep (w':=w1.setCell q (.int .i64 v)) (fun x hx=>(heap_setCell_other _ _ _ _ (fun e=>hS.nor (e ▸ hx))).trans (hbel.block x (hrow.lt x hx)))
 have hpf:=frozen_of_row _ p 4 _ _ hR2.blk
 have hnd:=hR2.apart
 have hpl:p ∉ rowF lv:=fun hx=>by simp only [List.nodup_cons,List.mem_cons] at hnd;exact hnd.1 (.inr (.inr (.inr hx)))
 have HPL:=kH hpl
 have HSET:=kH hS
 clear hb1 hR0 hR1 hbox hbox2 hbel hlt hnd hpl hset hS c0 c1 c2 c3
 go_wp2_with fail
 have hz2:w1.heap.size=(w1.setCell q (.int .i64 v)).heap.size:=by simp
 generalize w1.setCell q (.int .i64 v)=wr at *
 have hRow:wr.ownsRow 0 277 8 lv nl xl:=hrow2
 have HR1:=kH hR2
 have HB:=kH hK2
 clear e0 e1 e2 hu hqf hR2 hK2 hrow2
 have HNW:Hid (∀ r (n:Nat) (u:Value),[Value.int .i64 th,.int .i64 2,.int .i64 k,.int .i64 i,.int .i64 j,.int .i64 0,.int .i64 v,.bool false][n]?=some u→((wr.drewN r).alloc (.cells #[.int .i64 th,.int .i64 2,.int .i64 k,.int .i64 i,.int .i64 j,.int .i64 0,.int .i64 v,.bool false] 277 (0,0))).cell? ((⟨wr.heap.size,0,none⟩:Addr).add n)=some u):=fun r n u hu=>new_cell (heap_new_at (w:=wr.drewN r) rfl) n u hu
 go_region_law (refine step_append_lies _ rfl (.tmp 22) (.tmp 27) 118 rfl 0 277 i0 _ 8 64 Tryz.underlying118 yi yz0 yz1 yz2 rfl (by decide) lv nl xl rfl (World.ownsRow.alloc (w:=wr.drewN _) hRow _) ⟨wr.heap.size,0,none⟩ 1 1 [.int .i64 th,.int .i64 2,.int .i64 k,.int .i64 i,.int .i64 j,.int .i64 0,.int .i64 v,.bool false] rfl rfl (HNW.out _) (by simp [Value.oneCell']) (by decide) (by unfold maxLen;omega) (by omega) (Nat.zero_le _) _ rfl ?_;intro g cap w5 hown5 hgrow5 hat5 hgl5;have hS5:w5.heap[p]?=some _:=(hgrow5.block p (by simp;omega) (fun e=>HPL.out (rowF_own e.symm))).trans (heap_old_at (w:=wr.drewN _) HR1.out.blk);have hcf5:=frozen_of_row w5 p 4 _ _ hS5;have hcc5:=cell_of_row w5 p 4 _ _ _ hS5;have HS5:=kH hS5;clear hS5)
 all_goals
   obtain ⟨hR6,hK6,hF6,hC6⟩:=log_done HB.out HR1.out (by exact ⟨rfl,rfl,rfl,by simp,fun k hk _=>heap_alloc_old wr _ hk⟩) hgrow5 hat5 hnl hown5
   generalize w5.setCell ⟨p,4,none⟩ (.slice (some ⟨g,0,none⟩) (nl+1) cap)=w6 at *
   have HR6:=kH hR6
   have HK6:=kH hK6
   have HFR:=kH hF6
   clear hR6 hK6 hF6 hC6 hown5 hgrow5 hat5
   go_wp2
   go_ret
   exact ⟨rfl,_,HR6.out,HK6.out,HFR.out⟩
end
end Go.Proofs.YtgfogfciobmmpaaGreatDoor
