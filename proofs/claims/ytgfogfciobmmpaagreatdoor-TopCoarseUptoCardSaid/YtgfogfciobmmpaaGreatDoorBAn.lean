/- A part of the proof of a law of carouseltop: ChnMachC18b Core5 Iface. -/
import Derived.Test.YtgfogfciobmmpaaGreatDoorBAm
set_option linter.unusedSimpArgs false
set_option linter.unusedVariables false
set_option maxRecDepth 100000
set_option maxHeartbeats 8000000
namespace Go.Proofs.YtgfogfciobmmpaaGreatDoor
open Go.RowKit
namespace Chn
open Go.RowKit
theorem Bq(w:World)(p:Nat)(base most:Int)(nx:Value)(B:List dP)(k:Int)(cell q:Int)(st:Bool)(ky:Int)(a:Bool)(h:ci w p base most nx)(hb:inB base most) :
  Calls Tryz.prog 164 #[.pointer (some ⟨p,0,none⟩),.int .i64 k,.agg #[.int .i64 cell,.int .i64 q,.bool st,.int .i64 ky,.bool a]] w (aA p base most B (addsK base k ⟨cell,q,st,ky,a⟩) w):=by
 obtain⟨⟨c0,c1,c2⟩,f2,hlt⟩:=bC h
 have HP:=kH h
 have HB:=kH hb
 obtain⟨hb0,hb1,hm0,hm1⟩:=hb
 clear h
 cases a with
 | true =>
  rw[show addsK base k ⟨cell,q,st,ky,true⟩=endK 0 3 from rfl]
  go_enter Tryz.func164,Tryz.ntmps164
  go_wp2_with fail
  refine(di _ p base most nx (B) (0) (3) (by repeat first|exact HP.out|refine kO ?_)).mono ?_
  rintro e w1 ⟨rfl,post⟩
  have hg1:=aq post.1 (aj (n:=w.heap.size+3) (by simp)) (by omega)
  obtain⟨⟨d0,d1,d2,d3⟩,⟨g0,g1,g2,g3⟩,hz⟩:=bB hg1
  simp only[ax.val,endK]
  go_wp2
  exact bodyPost_ret (results_cell_row rfl _ _ _ _ _ _ _ rfl (ab (ab (ab (ab hg1)))) Tryz.underlying109 rfl ap) rfl (aC (w.heap.size+3) hlt ⟨rfl,post⟩)
 | false =>
  rw[show addsK base k ⟨cell,q,st,ky,false⟩=(bV (base+1),.addF k ⟨cell,q,st,ky,false⟩)from rfl]
  go_enter Tryz.func164,Tryz.ntmps164
  go_wp2_with fail
  refine(dS _ p base most nx ([⟨w.heap.size,#[.pointer (some ⟨p,0,none⟩)],191⟩,⟨w.heap.size+1,#[.int .i64 k],2⟩,⟨w.heap.size+2,#[.int .i64 cell,.int .i64 q,.bool st,.int .i64 ky,.bool false],243⟩,⟨w.heap.size+4,#[.func (.func 194) #[] #[.pointer (some ⟨w.heap.size,0,none⟩),.pointer (some ⟨w.heap.size+1,0,none⟩),.pointer (some ⟨w.heap.size+2,0,none⟩)]],131⟩]++B) (.addF k ⟨cell,q,st,ky,false⟩) (1) 199 (#[]) (#[.pointer (some ⟨w.heap.size,0,none⟩),.pointer (some ⟨w.heap.size+4,0,none⟩)]) (by repeat first|exact HP.out|refine kO ?_) HB.out (by omega) ⟨_,_,(List.mem_append_left _ List.mem_cons_self),⟨_,⟨_,_,_,(List.mem_append_left _ List.mem_cons_self),(List.mem_append_left _ (List.mem_cons_of_mem _ List.mem_cons_self)),(List.mem_append_left _ (List.mem_cons_of_mem _ (List.mem_cons_of_mem _ List.mem_cons_self))),rfl⟩,(List.mem_append_left _ (List.mem_cons_of_mem _ (List.mem_cons_of_mem _ (List.mem_cons_of_mem _ List.mem_cons_self))))⟩,rfl⟩).mono ?_
  rintro e w1 ⟨rfl,post⟩
  have hg1:=aq post.1 (show(World.heap _)[w.heap.size+3]?=some (.cells #[.int .i64 0,.int .i64 0,.int .i64 0,.int .i64 0] 109 (0,0))from kO (aj (by simp))) (by omega)
  obtain⟨⟨d0,d1,d2,d3⟩,⟨g0,g1,g2,g3⟩,hz⟩:=bB hg1
  simp only[ax.val]
  go_wp2
  exact bodyPost_ret (results_cell_row rfl _ _ _ _ _ _ _ rfl (ab (ab (ab (ab hg1)))) Tryz.underlying109 rfl ap) rfl (dN (g:=w.heap.size+3) (M:=[⟨w.heap.size,#[.pointer (some ⟨p,0,none⟩)],191⟩,⟨w.heap.size+1,#[.int .i64 k],2⟩,⟨w.heap.size+2,#[.int .i64 cell,.int .i64 q,.bool st,.int .i64 ky,.bool false],243⟩,⟨w.heap.size+4,#[.func (.func 194) #[] #[.pointer (some ⟨w.heap.size,0,none⟩),.pointer (some ⟨w.heap.size+1,0,none⟩),.pointer (some ⟨w.heap.size+2,0,none⟩)]],131⟩]) (by repeat(first|exact ay _ _|refine az ?_ _|refine aF ?_ _|refine aJ ?_)) hlt (by omega) (by simp) (by intro x hx;simp only[List.mem_cons,List.not_mem_nil,or_false]at hx;rcases hx with rfl|rfl|rfl|rfl<;>first|exact⟨by simp,by simp,aj (by simp)⟩|exact⟨by simp,by simp,kO (aj (by simp))⟩|exact⟨by simp,by simp,kO (kO (aj (by simp)))⟩|exact⟨by simp,by simp,kO (kO (kO (aj (by simp))))⟩|exact⟨by simp,by simp,kO (kO (kO (kO (aj (by simp)))))⟩) ⟨rfl,post⟩ rfl)
theorem Bd(w:World)(p:Nat)(base most:Int)(nx:Value)(B:List dP)(cell q:Int)(st:Bool)(ky:Int)(a:Bool)(h:ci w p base most nx)(hb:inB base most)(hq:a=true->bg most q) :
  Calls Tryz.prog 165 #[.pointer (some ⟨p,0,none⟩),.agg #[.int .i64 cell,.int .i64 q,.bool st,.int .i64 ky,.bool a]] w (aA p base most B (delsK base ⟨cell,q,st,ky,a⟩) w):=by
 obtain⟨⟨c0,c1,c2⟩,f2,hlt⟩:=bC h
 have HP:=kH h
 have HB:=kH hb
 obtain⟨hb0,hb1,hm0,hm1⟩:=hb
 clear h
 cases a with
 | true =>
  have hl:=hq rfl
  clear hq
  rw[show delsK base ⟨cell,q,st,ky,true⟩=(bV (base+linkI q),.delQ ⟨cell,q,st,ky,true⟩)from rfl]
  go_enter Tryz.func165,Tryz.ntmps165
  go_wp2_with fail
  refine wp_region_still_tail 5 (by kernel_rfl) (by kernel_rfl) ?_
  change wpStill _ _ (World.drew _) (fun a'=>wpList _ _ _ _ a' (World.drew _)) _ _
  simp only[List.take_succ_cons,List.take_zero,List.drop_succ_cons,List.drop_zero]
  repeat still_step
  still_call ((fy _ (q) (lQ hl) (lP hl hm1)).mono fun _ _ h=>⟨h.1,h.2.symm⟩)
  repeat still_step
  refine wpStill_nil ?_
  go_wp2_with fail
  refine(dS _ p base most nx ([⟨w.heap.size,#[.pointer (some ⟨p,0,none⟩)],191⟩,⟨w.heap.size+1,#[.int .i64 cell,.int .i64 q,.bool st,.int .i64 ky,.bool true],243⟩]++B) (.delQ ⟨cell,q,st,ky,true⟩) (linkI q) 204 (#[]) (#[.pointer (some ⟨w.heap.size,0,none⟩),.pointer (some ⟨w.heap.size+1,0,none⟩)]) (by repeat first|exact HP.out|refine kO ?_) HB.out (vD hl hm1) ⟨_,_,(List.mem_append_left _ List.mem_cons_self),(List.mem_append_left _ (List.mem_cons_of_mem _ List.mem_cons_self)),rfl⟩).mono ?_
  rintro e w1 ⟨rfl,post⟩
  have hg1:=aq post.1 (aj (n:=w.heap.size+2) (by simp)) (by omega)
  obtain⟨⟨d0,d1,d2,d3⟩,⟨g0,g1,g2,g3⟩,hz⟩:=bB hg1
  simp only[ax.val]
  go_wp2
  exact bodyPost_ret (results_cell_row rfl _ _ _ _ _ _ _ rfl (ab (ab (ab (ab hg1)))) Tryz.underlying109 rfl ap) rfl (dN (g:=w.heap.size+2) (M:=[⟨w.heap.size,#[.pointer (some ⟨p,0,none⟩)],191⟩,⟨w.heap.size+1,#[.int .i64 cell,.int .i64 q,.bool st,.int .i64 ky,.bool true],243⟩]) (by repeat(first|exact ay _ _|refine az ?_ _|refine aF ?_ _|refine aJ ?_)) hlt (by omega) (by simp) (by intro x hx;simp only[List.mem_cons,List.not_mem_nil,or_false]at hx;rcases hx with rfl|rfl<;>first|exact⟨by simp,by simp,aj (by simp)⟩|exact⟨by simp,by simp,kO (aj (by simp))⟩|exact⟨by simp,by simp,kO (kO (aj (by simp)))⟩) ⟨rfl,post⟩ rfl)
 | false =>
  rw[show delsK base ⟨cell,q,st,ky,false⟩=endK 0 1 from rfl]
  clear hq
  go_enter Tryz.func165,Tryz.ntmps165
  go_wp2_with fail
  refine(di _ p base most nx (B) (0) (1) (by repeat first|exact HP.out|refine kO ?_)).mono ?_
  rintro e w1 ⟨rfl,post⟩
  have hg1:=aq post.1 (aj (n:=w.heap.size+2) (by simp)) (by omega)
  obtain⟨⟨d0,d1,d2,d3⟩,⟨g0,g1,g2,g3⟩,hz⟩:=bB hg1
  simp only[ax.val,endK]
  go_wp2
  exact bodyPost_ret (results_cell_row rfl _ _ _ _ _ _ _ rfl (ab (ab (ab (ab hg1)))) Tryz.underlying109 rfl ap) rfl (aC (w.heap.size+2) hlt ⟨rfl,post⟩)
theorem yR(w:World)(p:Nat)(base most:Int)(nx:Value)(B:List dP)(cell q:Int)(st:Bool)(ky:Int)(a:Bool)(h:ci w p base most nx)(hb:inB base most)(hq:a=true->bg most q) :
  Calls Tryz.prog 167 #[.pointer (some ⟨p,0,none⟩),.agg #[.int .i64 cell,.int .i64 q,.bool st,.int .i64 ky,.bool a]] w (aA p base most B (aboveK base ⟨cell,q,st,ky,a⟩) w):=by
 obtain⟨⟨c0,c1,c2⟩,f2,hlt⟩:=bC h
 have HP:=kH h
 have HB:=kH hb
 obtain⟨hb0,hb1,hm0,hm1⟩:=hb
 clear h
 cases a with
 | true =>
  have hl:=hq rfl
  clear hq
  rw[show aboveK base ⟨cell,q,st,ky,true⟩=(bV (base+linkI q),.keyOf)from rfl]
  go_enter Tryz.func167,Tryz.ntmps167
  go_wp2_with fail
  refine(fy _ (q) (lQ hl) (lP hl hm1)).mono ?_
  rintro e w' ⟨rfl,rfl⟩
  go_wp2_with fail
  refine(dS _ p base most nx (B) (.keyOf) (linkI q) 158 (#[.pointer (some ⟨p,0,none⟩)]) (#[]) (by repeat first|exact HP.out|refine kO ?_) HB.out (vD hl hm1) rfl).mono ?_
  rintro e w1 ⟨rfl,post⟩
  have hg1:=aq post.1 (aj (n:=w.heap.size+1) (by simp)) (by omega)
  obtain⟨⟨d0,d1,d2,d3⟩,⟨g0,g1,g2,g3⟩,hz⟩:=bB hg1
  simp only[ax.val]
  go_wp2
  exact bodyPost_ret (results_cell_row rfl _ _ _ _ _ _ _ rfl (ab (ab (ab (ab hg1)))) Tryz.underlying109 rfl ap) rfl (aC (w.heap.size+1) hlt ⟨rfl,post⟩)
 | false =>
  clear hq
  cases st with
  | true =>
   rw[show aboveK base ⟨cell,q,true,ky,false⟩=endK ky 0 from rfl]
   go_enter Tryz.func167,Tryz.ntmps167
   go_wp2_with fail
   refine(di _ p base most nx (B) (ky) (0) (by repeat first|exact HP.out|refine kO ?_)).mono ?_
   rintro e w1 ⟨rfl,post⟩
   have hg1:=aq post.1 (aj (n:=w.heap.size+1) (by simp)) (by omega)
   obtain⟨⟨d0,d1,d2,d3⟩,⟨g0,g1,g2,g3⟩,hz⟩:=bB hg1
   simp only[ax.val,endK]
   go_wp2
   exact bodyPost_ret (results_cell_row rfl _ _ _ _ _ _ _ rfl (ab (ab (ab (ab hg1)))) Tryz.underlying109 rfl ap) rfl (aC (w.heap.size+1) hlt ⟨rfl,post⟩)
  | false =>
   rw[show aboveK base ⟨cell,q,false,ky,false⟩=endK 0 1 from rfl]
   go_enter Tryz.func167,Tryz.ntmps167
   go_wp2_with fail
   refine(di _ p base most nx (B) (0) (1) (by repeat first|exact HP.out|refine kO ?_)).mono ?_
   rintro e w1 ⟨rfl,post⟩
   have hg1:=aq post.1 (aj (n:=w.heap.size+1) (by simp)) (by omega)
   obtain⟨⟨d0,d1,d2,d3⟩,⟨g0,g1,g2,g3⟩,hz⟩:=bB hg1
   simp only[ax.val,endK]
   go_wp2
   exact bodyPost_ret (results_cell_row rfl _ _ _ _ _ _ _ rfl (ab (ab (ab (ab hg1)))) Tryz.underlying109 rfl ap) rfl (aC (w.heap.size+1) hlt ⟨rfl,post⟩)
theorem nY(w:World)(p:Nat)(base most:Int)(nx:Value)(B:List dP)(call k:Int)(cell q:Int)(st:Bool)(ky:Int)(a:Bool)(bc bx bk:Nat)(h:ci w p base most nx)(hs:bv w p B)(hb:inB base most)(hbc:IB B call bc)(hbx:XB B p bx)(hbk:VB B k bk)(hq:a=true->bg most q) :
  Calls Tryz.prog 163 #[.agg #[.int .i64 cell,.int .i64 q,.bool st,.int .i64 ky,.bool a],.pointer (some ⟨bc,0,none⟩),.pointer (some ⟨bx,0,none⟩),.pointer (some ⟨bk,0,none⟩)] w (aA p base most B (thenK base call k ⟨cell,q,st,ky,a⟩) w):=by
 obtain⟨⟨c0,c1,c2⟩,f2,hlt⟩:=bC h
 have HP:=kH h
 have HB:=kH hb
 obtain⟨hb0,hb1,hm0,hm1⟩:=hb
 obtain⟨bc0,bcl,bcn⟩:=aO hs hbc
 have Hbc:=kH hbc
 obtain⟨bx0,bxl,bxn⟩:=aO hs hbx
 have Hbx:=kH hbx
 obtain⟨bk0,bkl,bkn⟩:=aO hs hbk
 have Hbk:=kH hbk
 have HS:=kH hs
 clear h hs hbc hbx hbk
 have HQ:=kH hq
 clear hq
 by_cases h1:call=1
 ·subst h1
  rw[show thenK base 1 k ⟨cell,q,st,ky,a⟩=addsK base k ⟨cell,q,st,ky,a⟩from rfl]
  go_enter Tryz.func163,Tryz.ntmps163
  go_wp2_with fail
  refine(Bq _ p base most nx B k cell q st ky a (by repeat first|exact HP.out|refine kO ?_) HB.out).mono ?_
  rintro e w1 ⟨rfl,post⟩
  have hg1:=aq post.1 (aj (n:=w.heap.size+1) (by simp)) (by omega)
  obtain⟨⟨d0,d1,d2,d3⟩,⟨g0,g1,g2,g3⟩,hz⟩:=bB hg1
  have POST:=kH post
  clear post
  generalize addsK base k ⟨cell,q,st,ky,a⟩=r at *
  obtain⟨⟨r0,r1,r2,r3⟩,kk⟩:=r
  simp only[ax.val]
  go_wp2
  exact bodyPost_ret (results_cell_row rfl _ _ _ _ _ _ _ rfl (ab (ab (ab (ab hg1)))) Tryz.underlying109 rfl ap) rfl (aC (w.heap.size+1) hlt ⟨rfl,POST.out⟩)
 by_cases h4:call=4
 ·subst h4
  rw[show thenK base 4 k ⟨cell,q,st,ky,a⟩=delsK base ⟨cell,q,st,ky,a⟩from rfl]
  go_enter Tryz.func163,Tryz.ntmps163
  go_wp2_with fail
  refine(Bd _ p base most nx B cell q st ky a (by repeat first|exact HP.out|refine kO ?_) HB.out HQ.out).mono ?_
  rintro e w1 ⟨rfl,post⟩
  have hg1:=aq post.1 (aj (n:=w.heap.size+1) (by simp)) (by omega)
  obtain⟨⟨d0,d1,d2,d3⟩,⟨g0,g1,g2,g3⟩,hz⟩:=bB hg1
  have POST:=kH post
  clear post
  generalize delsK base ⟨cell,q,st,ky,a⟩=r at *
  obtain⟨⟨r0,r1,r2,r3⟩,kk⟩:=r
  simp only[ax.val]
  go_wp2
  exact bodyPost_ret (results_cell_row rfl _ _ _ _ _ _ _ rfl (ab (ab (ab (ab hg1)))) Tryz.underlying109 rfl ap) rfl (aC (w.heap.size+1) hlt ⟨rfl,POST.out⟩)
 by_cases h6:call=6
 ·subst h6
  rw[show thenK base 6 k ⟨cell,q,st,ky,a⟩=hasK ⟨cell,q,st,ky,a⟩from rfl]
  cases a with
  | true =>
   rw[show hasK ⟨cell,q,st,ky,true⟩=endK 1 0 from rfl]
   go_enter Tryz.func163,Tryz.ntmps163
   go_wp2_with fail
   refine(di _ p base most nx (B) (1) (0) (by repeat first|exact HP.out|refine kO ?_)).mono ?_
   rintro e w1 ⟨rfl,post⟩
   have hg1:=aq post.1 (aj (n:=w.heap.size+1) (by simp)) (by omega)
   obtain⟨⟨d0,d1,d2,d3⟩,⟨g0,g1,g2,g3⟩,hz⟩:=bB hg1
   simp only[ax.val,endK]
   go_wp2
   exact bodyPost_ret (results_cell_row rfl _ _ _ _ _ _ _ rfl (ab (ab (ab (ab hg1)))) Tryz.underlying109 rfl ap) rfl (aC (w.heap.size+1) hlt ⟨rfl,post⟩)
  | false =>
   rw[show hasK ⟨cell,q,st,ky,false⟩=endK 0 0 from rfl]
   go_enter Tryz.func163,Tryz.ntmps163
   go_wp2_with fail
   refine(di _ p base most nx (B) (0) (0) (by repeat first|exact HP.out|refine kO ?_)).mono ?_
   rintro e w1 ⟨rfl,post⟩
   have hg1:=aq post.1 (aj (n:=w.heap.size+1) (by simp)) (by omega)
   obtain⟨⟨d0,d1,d2,d3⟩,⟨g0,g1,g2,g3⟩,hz⟩:=bB hg1
   simp only[ax.val,endK]
   go_wp2
   exact bodyPost_ret (results_cell_row rfl _ _ _ _ _ _ _ rfl (ab (ab (ab (ab hg1)))) Tryz.underlying109 rfl ap) rfl (aC (w.heap.size+1) hlt ⟨rfl,post⟩)
 rw[show thenK base call k ⟨cell,q,st,ky,a⟩=aboveK base ⟨cell,q,st,ky,a⟩from by unfold thenK;rw[if_neg h1,if_neg h4,if_neg h6]]
 have h1':(call == 1)=false:=by simpa using h1
 have h4':(call == 4)=false:=by simpa using h4
 have h6':(call == 6)=false:=by simpa using h6
 go_enter Tryz.func163,Tryz.ntmps163
 go_wp2_with fail
 refine(yR _ p base most nx B cell q st ky a (by repeat first|exact HP.out|refine kO ?_) HB.out HQ.out).mono ?_
 rintro e w1 ⟨rfl,post⟩
 have hg1:=aq post.1 (aj (n:=w.heap.size+1) (by simp)) (by omega)
 obtain⟨⟨d0,d1,d2,d3⟩,⟨g0,g1,g2,g3⟩,hz⟩:=bB hg1
 have POST:=kH post
 clear post
 generalize aboveK base ⟨cell,q,st,ky,a⟩=r at *
 obtain⟨⟨r0,r1,r2,r3⟩,kk⟩:=r
 simp only[ax.val]
 go_wp2
 exact bodyPost_ret (results_cell_row rfl _ _ _ _ _ _ _ rfl (ab (ab (ab (ab hg1)))) Tryz.underlying109 rfl ap) rfl (aC (w.heap.size+1) hlt ⟨rfl,POST.out⟩)
end Chn
section
variable {w0:World}{X:List Nat}{Cs:List aw}{w:World}{x p L:Nat}{wv tv:Value}{t:bZ}{q:dX}{F:List Nat}{m:au}
theorem DZ(hS:ah w0 X Cs w)(raw tries:Int)(ra:Option Addr)(rn rc:Nat)(c:cN)(hc:co c) :
  Calls Tryz.prog 55 #[rU raw c.ring c.writes c.stamps c.multi tries (.slice ra rn rc)] w (fun e w'=>∃ x q,e=.returned (.tuple #[ptr x,.int .i64 0])/\(q.most:Int)=c.writes/\dX.R q [] /\
   ah w0 X (eK x q .nilIface (.slice none 0 0) (cZ c.ring c.writes c.stamps c.multi) Cs) w'):=by
 obtain⟨ring,writes,stamps,multi⟩:=c
 obtain⟨⟨h1,h2⟩,⟨h3,h4⟩,⟨h5,h6⟩⟩:=hc
 simp only at h1 h2 h3 h4 h5 h6
 obtain⟨mw,rfl⟩:∃ k:Nat,writes=k:=⟨writes.toNat,by omega⟩
 have S0:=hS.new (.cells #[.int .i64 raw,.int .i64 ring,.int .i64 mw,.int .i64 stamps,.bool multi,.int .i64 tries,.slice ra rn rc] 24 (0,0))
 have HN:=kH (New_log S0 mw (by omega))
 have hbx:=ar (w:=w) (o:=.cells #[.int .i64 raw,.int .i64 ring,.int .i64 mw,.int .i64 stamps,.bool multi,.int .i64 tries,.slice ra rn rc] 24 (0,0)) rfl
 have hz:=af hbx
 have d1:decide (stamps<1)=false:=by simp;omega
 have d2:decide (1099511627776<stamps)=false:=by simp;omega
 clear hS S0
 unfold rU
 go_enter Tryz.func55,Tryz.ntmps55
 go_wp2_with fail
 refine HN.out.mono ?_
 rintro e w1 ⟨q,rfl,hm,hR,S1⟩
 have S2:ah w0 X (ag w.heap.size (.cells #[.int .i64 raw,.int .i64 ring,.int .i64 mw,.int .i64 stamps,.bool multi,.int .i64 tries,.slice ra rn rc] 24 (0,0))::eT q bQ [] Cs) w1:=by
  unfold eT ei at *
  exact S1.perm (List.perm_append_comm_assoc [_,_,_,_] [_] Cs)
 have hk:=fun j=>S2.cell j
 have c1:=hk 1
 have c2:=hk 2
 have c3:=hk 3
 have c4:=hk 4
 simp only[gA,gZ,gS]at c1 c2 c3 c4
 have HS2:=kH S2.drop
 have HM:=kH hm
 have HR:=kH hR
 clear S1 S2 hk hm hR hbx
 unfold ptr
 go_wp2
 go_ret2
 refine⟨w1.heap.size,q,rfl,by rw[HM.out],HR.out,?_⟩
 exact((HS2.out.new (lM q.g .nilIface (.slice none 0 0) (cZ ring mw stamps multi))).nilRow 44 19).sw
theorem DX(hS:ah w0 X (ag x (lM q.g wv tv t)::Cs) w) :
  Calls Tryz.prog 59 #[ptr x] w (fun e w'=>e=.returned (.int .i64 t.phase)/\ah w0 X (ag x (lM q.g wv tv t)::Cs) w'):=by
 have c8:=hS.cell 8
 simp only[fu,gA,gZ,gS]at c8
 have HS:=kH hS
 clear hS
 generalize t.phase=ph at *
 unfold ptr at *
 go_enter Tryz.func59,Tryz.ntmps59
 go_wp2
 go_ret
 exact⟨rfl,HS.out⟩
end
theorem uV(v a b:Value)(w:World):(invoke (.fn (.method "Step") #[]) #[.iface 154 v,a,b]).run Tryz.prog w=.ok (.enter 269 #[v,a,b]) w:=by kernel_rfl
theorem yn(k:Nat)(w:World):(Instr.typeAssert (.iface 154 (ptr k)) 126 154 true).run Tryz.prog w=.ok (.tuple #[ptr k,.bool true]) w:=by kernel_rfl
theorem uT(v a b:Value)(w:World):(invoke (.fn (.method "Step") #[]) #[.iface 160 v,a,b]).run Tryz.prog w=.ok (.enter 271 #[v,a,b]) w:=by kernel_rfl
theorem yj(k:Nat)(w:World):(Instr.typeAssert (.iface 160 (ptr k)) 126 154 true).run Tryz.prog w=.ok (.tuple #[.pointer none,.bool false]) w:=by kernel_rfl
theorem yh(k:Nat)(w:World):(Instr.typeAssert (.iface 160 (ptr k)) 126 160 true).run Tryz.prog w=.ok (.tuple #[ptr k,.bool true]) w:=by kernel_rfl
theorem uU(v a b:Value)(w:World):(invoke (.fn (.method "Step") #[]) #[.iface 167 v,a,b]).run Tryz.prog w=.ok (.enter 279 #[v,a,b]) w:=by kernel_rfl
theorem ym(k:Nat)(w:World):(Instr.typeAssert (.iface 167 (ptr k)) 126 154 true).run Tryz.prog w=.ok (.tuple #[.pointer none,.bool false]) w:=by kernel_rfl
theorem yk(k:Nat)(w:World):(Instr.typeAssert (.iface 167 (ptr k)) 126 160 true).run Tryz.prog w=.ok (.tuple #[.pointer none,.bool false]) w:=by kernel_rfl
theorem yl(k:Nat)(w:World):(Instr.typeAssert (.iface 167 (ptr k)) 126 167 true).run Tryz.prog w=.ok (.tuple #[ptr k,.bool true]) w:=by kernel_rfl
theorem uW(v a b:Value)(w:World):(invoke (.fn (.method "Step") #[]) #[.iface 172 v,a,b]).run Tryz.prog w=.ok (.enter 284 #[v,a,b]) w:=by kernel_rfl
theorem yq(k:Nat)(w:World):(Instr.typeAssert (.iface 172 (ptr k)) 126 154 true).run Tryz.prog w=.ok (.tuple #[.pointer none,.bool false]) w:=by kernel_rfl
theorem yo(k:Nat)(w:World):(Instr.typeAssert (.iface 172 (ptr k)) 126 160 true).run Tryz.prog w=.ok (.tuple #[.pointer none,.bool false]) w:=by kernel_rfl
theorem yp(k:Nat)(w:World):(Instr.typeAssert (.iface 172 (ptr k)) 126 167 true).run Tryz.prog w=.ok (.tuple #[.pointer none,.bool false]) w:=by kernel_rfl
theorem yr(k:Nat)(w:World):(Instr.typeAssert (.iface 172 (ptr k)) 126 172 true).run Tryz.prog w=.ok (.tuple #[ptr k,.bool true]) w:=by kernel_rfl
end Go.Proofs.YtgfogfciobmmpaaGreatDoor
