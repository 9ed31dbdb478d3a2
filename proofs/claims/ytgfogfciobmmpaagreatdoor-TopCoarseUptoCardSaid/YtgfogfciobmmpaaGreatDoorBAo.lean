/- A part of the proof of a law of carouseltop: ChnMachC18c ChnMachC18e ChnMachC18f. -/
import Derived.Test.YtgfogfciobmmpaaGreatDoorBAn
set_option linter.unusedSimpArgs false
set_option linter.unusedVariables false
set_option maxRecDepth 100000
set_option maxHeartbeats 8000000
namespace Go.Proofs.YtgfogfciobmmpaaGreatDoor
open Go.RowKit
namespace Chn
open Go.RowKit
theorem yu(w:World)(p:Nat)(base most:Int)(nx:Value)(B:List dP)(call k cell n v:Int)(bx bn bt t1 t2 t3 bc bk:Nat)(h:ci w p base most nx)(hs:bv w p B)(hb:inB base most)(hbx:XB B p bx)(hbn:VB B n bn)(hbt:⟨bt,#[.func (.func 163) #[] #[.pointer (some ⟨t1,0,none⟩),.pointer (some ⟨t2,0,none⟩),.pointer (some ⟨t3,0,none⟩)]],245⟩∈B)(ht1:IB B call t1)(ht2:XB B p t2)(ht3:VB B k t3)(hbc:IB B cell bc)(hbk:VB B k bk)(hn:0<=n/\n<=most) :
  Calls Tryz.prog 192 #[.int .i64 v,.pointer (some ⟨bx,0,none⟩),.pointer (some ⟨bn,0,none⟩),.pointer (some ⟨bt,0,none⟩),.pointer (some ⟨bc,0,none⟩),.pointer (some ⟨bk,0,none⟩)] w (aA p base most B (goK base most (.goes call k cell n) v) w):=by
 obtain⟨⟨c0,c1,c2⟩,f2,hlt⟩:=bC h
 have HP:=kH h
 have HB:=kH hb
 obtain⟨hb0,hb1,hm0,hm1⟩:=hb
 obtain⟨bx0,bxl,bxn⟩:=aO hs hbx
 have Hbx:=kH hbx
 obtain⟨bn0,bnl,bnn⟩:=aO hs hbn
 have Hbn:=kH hbn
 obtain⟨bt0,btl,btn⟩:=aO hs hbt
 have Hbt:=kH hbt
 obtain⟨t10,t1l,t1n⟩:=aO hs ht1
 have Ht1:=kH ht1
 obtain⟨t20,t2l,t2n⟩:=aO hs ht2
 have Ht2:=kH ht2
 obtain⟨t30,t3l,t3n⟩:=aO hs ht3
 have Ht3:=kH ht3
 obtain⟨bc0,bcl,bcn⟩:=aO hs hbc
 have Hbc:=kH hbc
 obtain⟨bk0,bkl,bkn⟩:=aO hs hbk
 have Hbk:=kH hbk
 have HS:=kH hs
 clear h hs hbx hbn hbt ht1 ht2 ht3 hbc hbk
 obtain⟨hn0,hn1⟩:=hn
 by_cases hl:bg most v
 ·by_cases hne:n=most
  ·rw[show goK base most (.goes call k cell n) v=thenK base call k ⟨cell,v,false,0,false⟩from if_neg (fun h=>h.2 hne)]
   have hne':(n == most)=true:=by simpa using hne
   clear hne
   go_enter Tryz.func192,Tryz.ntmps192
   go_wp2_with fail
   go_quiet((go_at_call 187;exact gV (fun W hW=>ll (p:=p) (base:=base) (most:=most) (nx:=nx) (lk (kO (kO HP.out)) hW) hl) _))
   go_wp2_with fail
   refine(nY _ p base most nx B call k cell v false 0 false t1 t2 t3 (by repeat first|exact HP.out|refine kO ?_) (HS.out.keep (by repeat(first|exact ay _ _|refine az ?_ _|refine aF ?_ _|refine aJ ?_))) HB.out Ht1.out Ht2.out Ht3.out (fun h=>by cases h)).mono ?_
   rintro e w1 ⟨rfl,post⟩
   have hg1:=aq post.1 (aj (n:=w.heap.size+1) (by simp)) (by omega)
   obtain⟨⟨d0,d1,d2,d3⟩,⟨g0,g1,g2,g3⟩,hz⟩:=bB hg1
   have POST:=kH post
   clear post
   generalize thenK base call k ⟨cell,v,false,0,false⟩=r at *
   obtain⟨⟨r0,r1,r2,r3⟩,kk⟩:=r
   simp only[ax.val]
   go_wp2
   exact bodyPost_ret (results_cell_row rfl _ _ _ _ _ _ _ rfl (ab (ab (ab (ab hg1)))) Tryz.underlying109 rfl ap) rfl (aC (w.heap.size+1) hlt ⟨rfl,POST.out⟩)
  ·rw[show goK base most (.goes call k cell n) v=(bV (base+keyI v),.goes1 call k cell n v)from if_pos ⟨hl,hne⟩]
   have hne':(n == most)=false:=by simpa using hne
   go_enter Tryz.func192,Tryz.ntmps192
   go_wp2_with fail
   go_quiet((go_at_call 187;exact gV (fun W hW=>ll (p:=p) (base:=base) (most:=most) (nx:=nx) (lk (kO (kO HP.out)) hW) hl) _))
   go_wp2_with fail
   refine wp_region_still_tail 4 (by kernel_rfl) (by kernel_rfl) ?_
   change wpStill _ _ (World.drew _) (fun a'=>wpList _ _ _ _ a' (World.drew _)) _ _
   simp only[List.take_succ_cons,List.take_zero,List.drop_succ_cons,List.drop_zero]
   repeat still_step
   still_call ((oB _ (v) (lQ hl) (lP hl hm1)).mono fun _ _ h=>⟨h.1,h.2.symm⟩)
   repeat still_step
   refine wpStill_nil ?_
   go_wp2_with fail
   refine(dS _ p base most nx ([⟨w.heap.size,#[.int .i64 v],2⟩]++B) (.goes1 call k cell n v) (keyI v) 193 (#[]) (#[.pointer (some ⟨bk,0,none⟩),.pointer (some ⟨bt,0,none⟩),.pointer (some ⟨bc,0,none⟩),.pointer (some ⟨w.heap.size,0,none⟩),.pointer (some ⟨bx,0,none⟩),.pointer (some ⟨bn,0,none⟩)]) (by repeat first|exact HP.out|refine kO ?_) HB.out (keyR hl hm1) ⟨_,_,_,_,_,_,_,(List.mem_append_right _ Hbk.out),⟨_,_,_,(List.mem_append_right _ Ht1.out),(List.mem_append_right _ Ht2.out),(List.mem_append_right _ Ht3.out),rfl⟩,(List.mem_append_right _ Hbt.out),(List.mem_append_right _ Hbc.out),(List.mem_append_left _ List.mem_cons_self),(List.mem_append_right _ Hbx.out),(List.mem_append_right _ Hbn.out),rfl⟩).mono ?_
   rintro e w1 ⟨rfl,post⟩
   have hg1:=aq post.1 (aj (n:=w.heap.size+1) (by simp)) (by omega)
   obtain⟨⟨d0,d1,d2,d3⟩,⟨g0,g1,g2,g3⟩,hz⟩:=bB hg1
   simp only[ax.val]
   go_wp2
   exact bodyPost_ret (results_cell_row rfl _ _ _ _ _ _ _ rfl (ab (ab (ab (ab hg1)))) Tryz.underlying109 rfl ap) rfl (dN (g:=w.heap.size+1) (M:=[⟨w.heap.size,#[.int .i64 v],2⟩]) (by repeat(first|exact ay _ _|refine az ?_ _|refine aF ?_ _|refine aJ ?_)) hlt (by omega) (by simp) (by intro x hx;simp only[List.mem_cons,List.not_mem_nil,or_false]at hx;rcases hx with rfl<;>first|exact⟨by simp,by simp,aj (by simp)⟩|exact⟨by simp,by simp,kO (aj (by simp))⟩) ⟨rfl,post⟩ rfl)
 ·rw[show goK base most (.goes call k cell n) v=thenK base call k ⟨cell,v,false,0,false⟩from if_neg (fun h=>hl h.1)]
  go_enter Tryz.func192,Tryz.ntmps192
  go_wp2_with fail
  go_quiet((go_at_call 187;exact gV (fun W hW=>pI (p:=p) (base:=base) (most:=most) (nx:=nx) (lk (kO (kO HP.out)) hW) hl) _))
  go_wp2_with fail
  refine(nY _ p base most nx B call k cell v false 0 false t1 t2 t3 (by repeat first|exact HP.out|refine kO ?_) (HS.out.keep (by repeat(first|exact ay _ _|refine az ?_ _|refine aF ?_ _|refine aJ ?_))) HB.out Ht1.out Ht2.out Ht3.out (fun h=>by cases h)).mono ?_
  rintro e w1 ⟨rfl,post⟩
  have hg1:=aq post.1 (aj (n:=w.heap.size+1) (by simp)) (by omega)
  obtain⟨⟨d0,d1,d2,d3⟩,⟨g0,g1,g2,g3⟩,hz⟩:=bB hg1
  have POST:=kH post
  clear post
  generalize thenK base call k ⟨cell,v,false,0,false⟩=r at *
  obtain⟨⟨r0,r1,r2,r3⟩,kk⟩:=r
  simp only[ax.val]
  go_wp2
  exact bodyPost_ret (results_cell_row rfl _ _ _ _ _ _ _ rfl (ab (ab (ab (ab hg1)))) Tryz.underlying109 rfl ap) rfl (aC (w.heap.size+1) hlt ⟨rfl,POST.out⟩)
theorem vU(w:World)(p:Nat)(base most:Int)(nx:Value)(B:List dP)(call k cell n q v:Int)(bk bt t1 t2 t3 bc bp bx bn:Nat)(h:ci w p base most nx)(hs:bv w p B)(hb:inB base most)(hbk:VB B k bk)(hbt:⟨bt,#[.func (.func 163) #[] #[.pointer (some ⟨t1,0,none⟩),.pointer (some ⟨t2,0,none⟩),.pointer (some ⟨t3,0,none⟩)]],245⟩∈B)(ht1:IB B call t1)(ht2:XB B p t2)(ht3:VB B k t3)(hbc:IB B cell bc)(hbp:VB B q bp)(hbx:XB B p bx)(hbn:VB B n bn)(hn:0<=n/\n<most)(hl:bg most q) :
  Calls Tryz.prog 193 #[.int .i64 v,.pointer (some ⟨bk,0,none⟩),.pointer (some ⟨bt,0,none⟩),.pointer (some ⟨bc,0,none⟩),.pointer (some ⟨bp,0,none⟩),.pointer (some ⟨bx,0,none⟩),.pointer (some ⟨bn,0,none⟩)] w (aA p base most B (goK base most (.goes1 call k cell n q) v) w):=by
 obtain⟨⟨c0,c1,c2⟩,f2,hlt⟩:=bC h
 have HP:=kH h
 have HB:=kH hb
 obtain⟨hb0,hb1,hm0,hm1⟩:=hb
 obtain⟨bk0,bkl,bkn⟩:=aO hs hbk
 have Hbk:=kH hbk
 obtain⟨bt0,btl,btn⟩:=aO hs hbt
 have Hbt:=kH hbt
 obtain⟨t10,t1l,t1n⟩:=aO hs ht1
 have Ht1:=kH ht1
 obtain⟨t20,t2l,t2n⟩:=aO hs ht2
 have Ht2:=kH ht2
 obtain⟨t30,t3l,t3n⟩:=aO hs ht3
 have Ht3:=kH ht3
 obtain⟨bc0,bcl,bcn⟩:=aO hs hbc
 have Hbc:=kH hbc
 obtain⟨bp0,bpl,bpn⟩:=aO hs hbp
 have Hbp:=kH hbp
 obtain⟨bx0,bxl,bxn⟩:=aO hs hbx
 have Hbx:=kH hbx
 obtain⟨bn0,bnl,bnn⟩:=aO hs hbn
 have Hbn:=kH hbn
 have HS:=kH hs
 clear h hs hbk hbt ht1 ht2 ht3 hbc hbp hbx hbn
 obtain⟨hn0,hn1⟩:=hn
 by_cases hk:k<=v
 ·rw[show goK base most (.goes1 call k cell n q) v=thenK base call k ⟨cell,q,true,v,v == k⟩from if_pos hk]
  go_enter Tryz.func193,Tryz.ntmps193
  go_wp2_with fail
  refine(nY _ p base most nx B call k cell q true v (v == k) t1 t2 t3 (by repeat first|exact HP.out|refine kO ?_) (HS.out.keep (by repeat(first|exact ay _ _|refine az ?_ _|refine aF ?_ _|refine aJ ?_))) HB.out Ht1.out Ht2.out Ht3.out (fun _=>hl)).mono ?_
  rintro e w1 ⟨rfl,post⟩
  have hg1:=aq post.1 (aj (n:=w.heap.size) (by simp)) (by omega)
  obtain⟨⟨d0,d1,d2,d3⟩,⟨g0,g1,g2,g3⟩,hz⟩:=bB hg1
  have POST:=kH post
  clear post
  generalize thenK base call k ⟨cell,q,true,v,v == k⟩=r at *
  obtain⟨⟨r0,r1,r2,r3⟩,kk⟩:=r
  simp only[ax.val]
  go_wp2
  exact bodyPost_ret (results_cell_row rfl _ _ _ _ _ _ _ rfl (ab (ab (ab (ab hg1)))) Tryz.underlying109 rfl ap) rfl (aC w.heap.size hlt ⟨rfl,POST.out⟩)
 ·rw[show goK base most (.goes1 call k cell n q) v=(bV (base+linkI q),.goes call k (linkI q) (n+1))from if_neg hk]
  go_enter Tryz.func193,Tryz.ntmps193
  go_wp2_with fail
  refine wp_region_still_tail 7 (by kernel_rfl) (by kernel_rfl) ?_
  change wpStill _ _ (World.drew _) (fun a'=>wpList _ _ _ _ a' (World.drew _)) _ _
  simp only[List.take_succ_cons,List.take_zero,List.drop_succ_cons,List.drop_zero]
  repeat still_step
  still_call ((fy _ (q) (lQ hl) (lP hl hm1)).mono fun _ _ h=>⟨h.1,h.2.symm⟩)
  repeat still_step
  refine wpStill_nil ?_
  go_wp2_with fail
  refine(sH _ p base most nx B call k (linkI q) (n+1) 163 #[] #[.pointer (some ⟨t1,0,none⟩),.pointer (some ⟨t2,0,none⟩),.pointer (some ⟨t3,0,none⟩)] (by repeat first|exact HP.out|refine kO ?_) HB.out (CO hl hm1) (by omega) ⟨_,_,_,Ht1.out,Ht2.out,Ht3.out,rfl⟩).mono ?_
  rintro e w1 ⟨rfl,post⟩
  have hg1:=aq post.1 (aj (n:=w.heap.size) (by simp)) (by omega)
  obtain⟨⟨d0,d1,d2,d3⟩,⟨g0,g1,g2,g3⟩,hz⟩:=bB hg1
  simp only[ax.val]
  go_wp2
  exact bodyPost_ret (results_cell_row rfl _ _ _ _ _ _ _ rfl (ab (ab (ab (ab hg1)))) Tryz.underlying109 rfl ap) rfl (aC w.heap.size hlt ⟨rfl,post⟩)
end Chn
namespace Chn
open Go.RowKit
theorem B5(w:World)(p:Nat)(base most:Int)(nx:Value)(B:List dP)(v:Int)(k f:Int)(d:WayD)(s3:Nat)(bl s1 s2 bf bt:Nat)(h:ci w p base most nx)(hs:bv w p B)(hb:inB base most)(hbl:⟨bl,#[.func (.func 194) #[] #[.pointer (some ⟨s1,0,none⟩),.pointer (some ⟨s2,0,none⟩),.pointer (some ⟨s3,0,none⟩)]],131⟩∈B)(hs1:XB B p s1)(hs2:VB B k s2)(hbf:VB B f bf)(hbt:⟨bt,#[.func (.func 201) #[] #[.pointer (some ⟨bl,0,none⟩),.pointer (some ⟨bf,0,none⟩)]],266⟩∈B)(hs3:WB B d s3)(hl:bg most f) :
  Calls Tryz.prog 228 #[.int .i64 v,.pointer (some ⟨bt,0,none⟩)] w (aA p base most B (gE base k d f) w):=by
 obtain⟨⟨c0,c1,c2⟩,f2,hlt⟩:=bC h
 have HP:=kH h
 have HB:=kH hb
 obtain⟨hb0,hb1,hm0,hm1⟩:=hb
 obtain⟨bl0,bll,bln⟩:=aO hs hbl
 have Hbl:=kH hbl
 obtain⟨s10,s1l,s1n⟩:=aO hs hs1
 have Hs1:=kH hs1
 obtain⟨s20,s2l,s2n⟩:=aO hs hs2
 have Hs2:=kH hs2
 obtain⟨bf0,bfl,bfn⟩:=aO hs hbf
 have Hbf:=kH hbf
 obtain⟨bt0,btl,btn⟩:=aO hs hbt
 have Hbt:=kH hbt
 have HS:=kH hs
 clear h hs hbl hs1 hs2 hbf hbt
 go_enter Tryz.func228,Tryz.ntmps228
 go_wp2_with fail
 refine(yb _ p base most nx B k f d s3 bl s1 s2 bf (by repeat first|exact HP.out|refine kO ?_) (HS.out.keep (by repeat(first|exact ay _ _|refine az ?_ _|refine aF ?_ _|refine aJ ?_))) HB.out Hbl.out Hs1.out Hs2.out Hbf.out hs3 hl).mono ?_
 rintro e w1 ⟨rfl,post⟩
 have hg1:=aq post.1 (aj (n:=w.heap.size) (by simp)) (by omega)
 obtain⟨⟨d0,d1,d2,d3⟩,⟨g0,g1,g2,g3⟩,hz⟩:=bB hg1
 have POST:=kH post
 clear post
 generalize (gE base k d f)=r at *
 obtain⟨⟨r0,r1,r2,r3⟩,kk⟩:=r
 simp only[ax.val]
 go_wp2
 exact bodyPost_ret (results_cell_row rfl _ _ _ _ _ _ _ rfl (ab (ab (ab (ab hg1)))) Tryz.underlying109 rfl ap) rfl (aC w.heap.size hlt ⟨rfl,POST.out⟩)
theorem B0(w:World)(p:Nat)(base most:Int)(nx:Value)(B:List dP)(v:Int)(k f:Int)(d:WayD)(s3:Nat)(bl s1 s2 bf bt:Nat)(h:ci w p base most nx)(hs:bv w p B)(hb:inB base most)(hbl:⟨bl,#[.func (.func 194) #[] #[.pointer (some ⟨s1,0,none⟩),.pointer (some ⟨s2,0,none⟩),.pointer (some ⟨s3,0,none⟩)]],131⟩∈B)(hs1:XB B p s1)(hs2:VB B k s2)(hbf:VB B f bf)(hbt:⟨bt,#[.func (.func 203) #[] #[.pointer (some ⟨bl,0,none⟩),.pointer (some ⟨bf,0,none⟩)]],266⟩∈B)(hs3:WB B d s3)(hf:0<=f/\f<most) :
  Calls Tryz.prog 228 #[.int .i64 v,.pointer (some ⟨bt,0,none⟩)] w (aA p base most B (gE base k d (f+1)) w):=by
 obtain⟨⟨c0,c1,c2⟩,f2,hlt⟩:=bC h
 have HP:=kH h
 have HB:=kH hb
 obtain⟨hb0,hb1,hm0,hm1⟩:=hb
 obtain⟨bl0,bll,bln⟩:=aO hs hbl
 have Hbl:=kH hbl
 obtain⟨s10,s1l,s1n⟩:=aO hs hs1
 have Hs1:=kH hs1
 obtain⟨s20,s2l,s2n⟩:=aO hs hs2
 have Hs2:=kH hs2
 obtain⟨bf0,bfl,bfn⟩:=aO hs hbf
 have Hbf:=kH hbf
 obtain⟨bt0,btl,btn⟩:=aO hs hbt
 have Hbt:=kH hbt
 have HS:=kH hs
 clear h hs hbl hs1 hs2 hbf hbt
 go_enter Tryz.func228,Tryz.ntmps228
 go_wp2_with fail
 refine(x9 _ p base most nx B k f d s3 bl s1 s2 bf (by repeat first|exact HP.out|refine kO ?_) (HS.out.keep (by repeat(first|exact ay _ _|refine az ?_ _|refine aF ?_ _|refine aJ ?_))) HB.out Hbl.out Hs1.out Hs2.out Hbf.out hs3 hf).mono ?_
 rintro e w1 ⟨rfl,post⟩
 have hg1:=aq post.1 (aj (n:=w.heap.size) (by simp)) (by omega)
 obtain⟨⟨d0,d1,d2,d3⟩,⟨g0,g1,g2,g3⟩,hz⟩:=bB hg1
 have POST:=kH post
 clear post
 generalize (gE base k d (f+1))=r at *
 obtain⟨⟨r0,r1,r2,r3⟩,kk⟩:=r
 simp only[ax.val]
 go_wp2
 exact bodyPost_ret (results_cell_row rfl _ _ _ _ _ _ _ rfl (ab (ab (ab (ab hg1)))) Tryz.underlying109 rfl ap) rfl (aC w.heap.size hlt ⟨rfl,POST.out⟩)
theorem w1_key(w:World)(p:Nat)(base most:Int)(nx:Value)(B:List dP)(v:Int)(k node:Int)(d:WayD)(bx bn bw bt:Nat)(h:ci w p base most nx)(hs:bv w p B)(hb:inB base most)(hbx:XB B p bx)(hbn:VB B node bn)(hbw:WB B d bw)(hbt:⟨bt,#[.func (.func 196) #[] #[.pointer (some ⟨bx,0,none⟩),.pointer (some ⟨bn,0,none⟩),.pointer (some ⟨bw,0,none⟩)]],266⟩∈B)(hl:bg most node) :
  Calls Tryz.prog 228 #[.int .i64 v,.pointer (some ⟨bt,0,none⟩)] w (aA p base most B (bN (base+linkI node) d.p,K.put (.link k d node)) w):=by
 obtain⟨⟨c0,c1,c2⟩,f2,hlt⟩:=bC h
 have HP:=kH h
 have HB:=kH hb
 obtain⟨hb0,hb1,hm0,hm1⟩:=hb
 obtain⟨bx0,bxl,bxn⟩:=aO hs hbx
 have Hbx:=kH hbx
 obtain⟨bn0,bnl,bnn⟩:=aO hs hbn
 have Hbn:=kH hbn
 obtain⟨⟨bw0,bw1,bw2,bw3,bw4⟩,bwl,bwn⟩:=iU hs hbw
 have Hbw:=kH hbw
 obtain⟨bt0,btl,btn⟩:=aO hs hbt
 have Hbt:=kH hbt
 have HS:=kH hs
 clear h hs hbx hbn hbw hbt
 go_enter Tryz.func228,Tryz.ntmps228
 go_wp2_with fail
 refine(Ao _ p base most nx B k node d bx bn bw (by repeat first|exact HP.out|refine kO ?_) (HS.out.keep (by repeat(first|exact ay _ _|refine az ?_ _|refine aF ?_ _|refine aJ ?_))) HB.out Hbx.out Hbn.out Hbw.out hl).mono ?_
 rintro e w1 ⟨rfl,post⟩
 have hg1:=aq post.1 (aj (n:=w.heap.size) (by simp)) (by omega)
 obtain⟨⟨d0,d1,d2,d3⟩,⟨g0,g1,g2,g3⟩,hz⟩:=bB hg1
 have POST:=kH post
 clear post
 generalize (bN (base+linkI node) d.p,K.put (.link k d node))=r at *
 obtain⟨⟨r0,r1,r2,r3⟩,kk⟩:=r
 simp only[ax.val]
 go_wp2
 exact bodyPost_ret (results_cell_row rfl _ _ _ _ _ _ _ rfl (ab (ab (ab (ab hg1)))) Tryz.underlying109 rfl ap) rfl (aC w.heap.size hlt ⟨rfl,POST.out⟩)
theorem w1_link(w:World)(p:Nat)(base most:Int)(nx:Value)(B:List dP)(v:Int)(node:Int)(d:WayD)(bx bw bn bt:Nat)(h:ci w p base most nx)(hs:bv w p B)(hb:inB base most)(hbx:XB B p bx)(hbw:WB B d bw)(hbn:VB B node bn)(hbt:⟨bt,#[.func (.func 197) #[] #[.pointer (some ⟨bx,0,none⟩),.pointer (some ⟨bw,0,none⟩),.pointer (some ⟨bn,0,none⟩)]],266⟩∈B)(hc:eB d.cell) :
  Calls Tryz.prog 228 #[.int .i64 v,.pointer (some ⟨bt,0,none⟩)] w (aA p base most B (bN (base+d.cell) node,K.put .fin) w):=by
 obtain⟨⟨c0,c1,c2⟩,f2,hlt⟩:=bC h
 have HP:=kH h
 have HB:=kH hb
 obtain⟨hb0,hb1,hm0,hm1⟩:=hb
 obtain⟨bx0,bxl,bxn⟩:=aO hs hbx
 have Hbx:=kH hbx
 obtain⟨⟨bw0,bw1,bw2,bw3,bw4⟩,bwl,bwn⟩:=iU hs hbw
 have Hbw:=kH hbw
 obtain⟨bn0,bnl,bnn⟩:=aO hs hbn
 have Hbn:=kH hbn
 obtain⟨bt0,btl,btn⟩:=aO hs hbt
 have Hbt:=kH hbt
 have HS:=kH hs
 clear h hs hbx hbw hbn hbt
 go_enter Tryz.func228,Tryz.ntmps228
 go_wp2_with fail
 refine(xp _ p base most nx B node d bx bw bn (by repeat first|exact HP.out|refine kO ?_) (HS.out.keep (by repeat(first|exact ay _ _|refine az ?_ _|refine aF ?_ _|refine aJ ?_))) HB.out Hbx.out Hbw.out Hbn.out hc).mono ?_
 rintro e w1 ⟨rfl,post⟩
 have hg1:=aq post.1 (aj (n:=w.heap.size) (by simp)) (by omega)
 obtain⟨⟨d0,d1,d2,d3⟩,⟨g0,g1,g2,g3⟩,hz⟩:=bB hg1
 have POST:=kH post
 clear post
 generalize (bN (base+d.cell) node,K.put .fin)=r at *
 obtain⟨⟨r0,r1,r2,r3⟩,kk⟩:=r
 simp only[ax.val]
 go_wp2
 exact bodyPost_ret (results_cell_row rfl _ _ _ _ _ _ _ rfl (ab (ab (ab (ab hg1)))) Tryz.underlying109 rfl ap) rfl (aC w.heap.size hlt ⟨rfl,POST.out⟩)
theorem w1_fin(w:World)(p:Nat)(base most:Int)(nx:Value)(B:List dP)(v:Int) (bx bt:Nat)(h:ci w p base most nx)(hs:bv w p B)(hb:inB base most)(hbx:XB B p bx)(hbt:⟨bt,#[.func (.func 198) #[] #[.pointer (some ⟨bx,0,none⟩)]],266⟩∈B) :
  Calls Tryz.prog 228 #[.int .i64 v,.pointer (some ⟨bt,0,none⟩)] w (aA p base most B (endK 0 0) w):=by
 obtain⟨⟨c0,c1,c2⟩,f2,hlt⟩:=bC h
 have HP:=kH h
 have HB:=kH hb
 obtain⟨hb0,hb1,hm0,hm1⟩:=hb
 obtain⟨bx0,bxl,bxn⟩:=aO hs hbx
 have Hbx:=kH hbx
 obtain⟨bt0,btl,btn⟩:=aO hs hbt
 have Hbt:=kH hbt
 have HS:=kH hs
 clear h hs hbx hbt
 go_enter Tryz.func228,Tryz.ntmps228
 go_wp2_with fail
 refine(C9 _ p base most nx B bx (by repeat first|exact HP.out|refine kO ?_) (HS.out.keep (by repeat(first|exact ay _ _|refine az ?_ _|refine aF ?_ _|refine aJ ?_))) HB.out Hbx.out).mono ?_
 rintro e w1 ⟨rfl,post⟩
 have hg1:=aq post.1 (aj (n:=w.heap.size) (by simp)) (by omega)
 obtain⟨⟨d0,d1,d2,d3⟩,⟨g0,g1,g2,g3⟩,hz⟩:=bB hg1
 have POST:=kH post
 clear post
 generalize (endK 0 0)=r at *
 obtain⟨⟨r0,r1,r2,r3⟩,kk⟩:=r
 simp only[ax.val]
 go_wp2
 exact bodyPost_ret (results_cell_row rfl _ _ _ _ _ _ _ rfl (ab (ab (ab (ab hg1)))) Tryz.underlying109 rfl ap) rfl (aC w.heap.size hlt ⟨rfl,POST.out⟩)
theorem w1_delW(w:World)(p:Nat)(base most:Int)(nx:Value)(B:List dP)(v:Int)(d:WayD)(bx bw bt:Nat)(h:ci w p base most nx)(hs:bv w p B)(hb:inB base most)(hbx:XB B p bx)(hbw:WB B d bw)(hbt:⟨bt,#[.func (.func 205) #[] #[.pointer (some ⟨bx,0,none⟩),.pointer (some ⟨bw,0,none⟩)]],266⟩∈B) :
  Calls Tryz.prog 228 #[.int .i64 v,.pointer (some ⟨bt,0,none⟩)] w (aA p base most B (bV (base+1),K.delF d) w):=by
 obtain⟨⟨c0,c1,c2⟩,f2,hlt⟩:=bC h
 have HP:=kH h
 have HB:=kH hb
 obtain⟨hb0,hb1,hm0,hm1⟩:=hb
 obtain⟨bx0,bxl,bxn⟩:=aO hs hbx
 have Hbx:=kH hbx
 obtain⟨⟨bw0,bw1,bw2,bw3,bw4⟩,bwl,bwn⟩:=iU hs hbw
 have Hbw:=kH hbw
 obtain⟨bt0,btl,btn⟩:=aO hs hbt
 have Hbt:=kH hbt
 have HS:=kH hs
 clear h hs hbx hbw hbt
 go_enter Tryz.func228,Tryz.ntmps228
 go_wp2_with fail
 refine(Be _ p base most nx B d bx bw (by repeat first|exact HP.out|refine kO ?_) (HS.out.keep (by repeat(first|exact ay _ _|refine az ?_ _|refine aF ?_ _|refine aJ ?_))) HB.out Hbx.out Hbw.out).mono ?_
 rintro e w1 ⟨rfl,post⟩
 have hg1:=aq post.1 (aj (n:=w.heap.size) (by simp)) (by omega)
 obtain⟨⟨d0,d1,d2,d3⟩,⟨g0,g1,g2,g3⟩,hz⟩:=bB hg1
 have POST:=kH post
 clear post
 generalize (bV (base+1),K.delF d)=r at *
 obtain⟨⟨r0,r1,r2,r3⟩,kk⟩:=r
 simp only[ax.val]
 go_wp2
 exact bodyPost_ret (results_cell_row rfl _ _ _ _ _ _ _ rfl (ab (ab (ab (ab hg1)))) Tryz.underlying109 rfl ap) rfl (aC w.heap.size hlt ⟨rfl,POST.out⟩)
theorem w1_delL(w:World)(p:Nat)(base most:Int)(nx:Value)(B:List dP)(v:Int)(d:WayD)(bx bw bt:Nat)(h:ci w p base most nx)(hs:bv w p B)(hb:inB base most)(hbx:XB B p bx)(hbw:WB B d bw)(hbt:⟨bt,#[.func (.func 207) #[] #[.pointer (some ⟨bx,0,none⟩),.pointer (some ⟨bw,0,none⟩)]],266⟩∈B) :
  Calls Tryz.prog 228 #[.int .i64 v,.pointer (some ⟨bt,0,none⟩)] w (aA p base most B (bN (base+1) d.p,K.put .delFin) w):=by
 obtain⟨⟨c0,c1,c2⟩,f2,hlt⟩:=bC h
 have HP:=kH h
 have HB:=kH hb
 obtain⟨hb0,hb1,hm0,hm1⟩:=hb
 obtain⟨bx0,bxl,bxn⟩:=aO hs hbx
 have Hbx:=kH hbx
 obtain⟨⟨bw0,bw1,bw2,bw3,bw4⟩,bwl,bwn⟩:=iU hs hbw
 have Hbw:=kH hbw
 obtain⟨bt0,btl,btn⟩:=aO hs hbt
 have Hbt:=kH hbt
 have HS:=kH hs
 clear h hs hbx hbw hbt
 go_enter Tryz.func228,Tryz.ntmps228
 go_wp2_with fail
 refine(Bg _ p base most nx B d bx bw (by repeat first|exact HP.out|refine kO ?_) (HS.out.keep (by repeat(first|exact ay _ _|refine az ?_ _|refine aF ?_ _|refine aJ ?_))) HB.out Hbx.out Hbw.out).mono ?_
 rintro e w1 ⟨rfl,post⟩
 have hg1:=aq post.1 (aj (n:=w.heap.size) (by simp)) (by omega)
 obtain⟨⟨d0,d1,d2,d3⟩,⟨g0,g1,g2,g3⟩,hz⟩:=bB hg1
 have POST:=kH post
 clear post
 generalize (bN (base+1) d.p,K.put .delFin)=r at *
 obtain⟨⟨r0,r1,r2,r3⟩,kk⟩:=r
 simp only[ax.val]
 go_wp2
 exact bodyPost_ret (results_cell_row rfl _ _ _ _ _ _ _ rfl (ab (ab (ab (ab hg1)))) Tryz.underlying109 rfl ap) rfl (aC w.heap.size hlt ⟨rfl,POST.out⟩)
theorem Ai(w:World)(p:Nat)(base most:Int)(nx:Value)(B:List dP)(v:Int) (bx bt:Nat)(h:ci w p base most nx)(hs:bv w p B)(hb:inB base most)(hbx:XB B p bx)(hbt:⟨bt,#[.func (.func 208) #[] #[.pointer (some ⟨bx,0,none⟩)]],266⟩∈B) :
  Calls Tryz.prog 228 #[.int .i64 v,.pointer (some ⟨bt,0,none⟩)] w (aA p base most B (endK 0 0) w):=by
 obtain⟨⟨c0,c1,c2⟩,f2,hlt⟩:=bC h
 have HP:=kH h
 have HB:=kH hb
 obtain⟨hb0,hb1,hm0,hm1⟩:=hb
 obtain⟨bx0,bxl,bxn⟩:=aO hs hbx
 have Hbx:=kH hbx
 obtain⟨bt0,btl,btn⟩:=aO hs hbt
 have Hbt:=kH hbt
 have HS:=kH hs
 clear h hs hbx hbt
 go_enter Tryz.func228,Tryz.ntmps228
 go_wp2_with fail
 refine(wj _ p base most nx B bx (by repeat first|exact HP.out|refine kO ?_) (HS.out.keep (by repeat(first|exact ay _ _|refine az ?_ _|refine aF ?_ _|refine aJ ?_))) HB.out Hbx.out).mono ?_
 rintro e w1 ⟨rfl,post⟩
 have hg1:=aq post.1 (aj (n:=w.heap.size) (by simp)) (by omega)
 obtain⟨⟨d0,d1,d2,d3⟩,⟨g0,g1,g2,g3⟩,hz⟩:=bB hg1
 have POST:=kH post
 clear post
 generalize (endK 0 0)=r at *
 obtain⟨⟨r0,r1,r2,r3⟩,kk⟩:=r
 simp only[ax.val]
 go_wp2
 exact bodyPost_ret (results_cell_row rfl _ _ _ _ _ _ _ rfl (ab (ab (ab (ab hg1)))) Tryz.underlying109 rfl ap) rfl (aC w.heap.size hlt ⟨rfl,POST.out⟩)
theorem yy(w:World)(p:Nat)(base most:Int)(nx:Value)(B:List dP)(v:Int)(x:ax)(bw:Nat)(h:ci w p base most nx)(hs:bv w p B)(hw:⟨bw,#[.int .i64 x.kind,.int .i64 x.cell,.int .i64 x.value,.int .i64 x.code],109⟩∈B)(hF:FV B p (.done x) nx) :
  Calls Tryz.prog 209 #[.int .i64 v,.pointer (some ⟨bw,0,none⟩)] w (aA p base most B (x,.done x) w):=by
 have hw2:=(hs _ hw).2
 obtain⟨⟨c0,c1,c2,c3⟩,-,hlt⟩:=bB hw2
 have HP:=kH h
 have HF:=kH hF
 clear h hs hw hw2 hF
 go_enter Tryz.func209,Tryz.ntmps209
 go_wp2
 exact bodyPost_ret (results_cell_row rfl _ _ _ _ _ _ _ rfl (aj (by simp)) Tryz.underlying109 rfl ap) rfl ⟨rfl,az (ay _ _) _,nx,[],kO HP.out,(fun x hx=>nomatch hx),HF.out⟩
end Chn
namespace Chn
open Go.RowKit
theorem xS(w:World)(p:Nat)(base most:Int)(B:List dP)(v:Int) (bx:Nat)(h:ci w p base most (.func (.func 156) #[] #[.pointer (some ⟨bx,0,none⟩)]))(hs:bv w p B)(hb:inB base most)(hbx:XB B p bx) :
  Calls Tryz.prog 288 #[.pointer (some ⟨p,0,none⟩),.int .i64 v] w (aA p base most B (goK base most (.least) v) w):=by
 have Hbx:=kH hbx
 have HS:=kH hs
 have HP:=kH h
 have HB:=kH hb
 obtain⟨⟨c0,c1,c2⟩,f2,hlt⟩:=bC h
 clear h hs hb hbx
 have hgo:goK base most (.least) v=(bV (base+0),K.keyOf):=rfl
 rw[hgo]
 clear hgo
 go_enter Tryz.func288,Tryz.ntmps288
 go_wp2_with fail
 refine(x6 _ p base most (.func (.func 156) #[] #[.pointer (some ⟨bx,0,none⟩)]) B v bx (by repeat first|exact HP.out|refine kO ?_) (HS.out.keep (by repeat(first|exact ay _ _|refine az ?_ _|refine aF ?_ _|refine aJ ?_))) HB.out Hbx.out).mono ?_
 rintro e w1 ⟨rfl,post⟩
 have hg1:=aq post.1 (aj (n:=w.heap.size) (by simp)) (by omega)
 obtain⟨⟨d0,d1,d2,d3⟩,⟨g0,g1,g2,g3⟩,hz⟩:=bB hg1
 have POST:=kH post
 clear post
 generalize (bV (base+0),K.keyOf)=r at *
 obtain⟨⟨r0,r1,r2,r3⟩,kk⟩:=r
 simp only[ax.val]
 go_wp2
 exact bodyPost_ret (results_cell_row rfl _ _ _ _ _ _ _ rfl (ab (ab (ab (ab hg1)))) Tryz.underlying109 rfl ap) rfl (aC w.heap.size hlt ⟨rfl,POST.out⟩)
theorem CD(w:World)(p:Nat)(base most:Int)(B:List dP)(v:Int) (bx:Nat)(h:ci w p base most (.func (.func 159) #[] #[.pointer (some ⟨bx,0,none⟩)]))(hs:bv w p B)(hb:inB base most)(hbx:XB B p bx) :
  Calls Tryz.prog 288 #[.pointer (some ⟨p,0,none⟩),.int .i64 v] w (aA p base most B (goK base most (.len) v) w):=by
 have Hbx:=kH hbx
 have HS:=kH hs
 have HP:=kH h
 have HB:=kH hb
 obtain⟨⟨c0,c1,c2⟩,f2,hlt⟩:=bC h
 clear h hs hb hbx
 have hgo:goK base most (.len) v=(bV (base+0),K.counts 0):=rfl
 rw[hgo]
 clear hgo
 go_enter Tryz.func288,Tryz.ntmps288
 go_wp2_with fail
 refine(CP _ p base most (.func (.func 159) #[] #[.pointer (some ⟨bx,0,none⟩)]) B v bx (by repeat first|exact HP.out|refine kO ?_) (HS.out.keep (by repeat(first|exact ay _ _|refine az ?_ _|refine aF ?_ _|refine aJ ?_))) HB.out Hbx.out).mono ?_
 rintro e w1 ⟨rfl,post⟩
 have hg1:=aq post.1 (aj (n:=w.heap.size) (by simp)) (by omega)
 obtain⟨⟨d0,d1,d2,d3⟩,⟨g0,g1,g2,g3⟩,hz⟩:=bB hg1
 have POST:=kH post
 clear post
 generalize (bV (base+0),K.counts 0)=r at *
 obtain⟨⟨r0,r1,r2,r3⟩,kk⟩:=r
 simp only[ax.val]
 go_wp2
 exact bodyPost_ret (results_cell_row rfl _ _ _ _ _ _ _ rfl (ab (ab (ab (ab hg1)))) Tryz.underlying109 rfl ap) rfl (aC w.heap.size hlt ⟨rfl,POST.out⟩)
theorem xR(w:World)(p:Nat)(base most:Int)(B:List dP)(v:Int)(call k:Int)(bx bk bc:Nat)(h:ci w p base most (.func (.func 161) #[] #[.pointer (some ⟨bx,0,none⟩),.pointer (some ⟨bk,0,none⟩),.pointer (some ⟨bc,0,none⟩)]))(hs:bv w p B)(hb:inB base most)(hbx:XB B p bx)(hbk:VB B k bk)(hbc:IB B call bc) :
  Calls Tryz.prog 288 #[.pointer (some ⟨p,0,none⟩),.int .i64 v] w (aA p base most B (goK base most (.start call k) v) w):=by
 have Hbx:=kH hbx
 have Hbk:=kH hbk
 have Hbc:=kH hbc
 have HS:=kH hs
 have HP:=kH h
 have HB:=kH hb
 obtain⟨⟨c0,c1,c2⟩,f2,hlt⟩:=bC h
 clear h hs hb hbx hbk hbc
 have hgo:goK base most (.start call k) v=(bV (base+0),K.goes call k 0 0):=rfl
 rw[hgo]
 clear hgo
 go_enter Tryz.func288,Tryz.ntmps288
 go_wp2_with fail
 refine(xz _ p base most (.func (.func 161) #[] #[.pointer (some ⟨bx,0,none⟩),.pointer (some ⟨bk,0,none⟩),.pointer (some ⟨bc,0,none⟩)]) B call k v bx bk bc (by repeat first|exact HP.out|refine kO ?_) (HS.out.keep (by repeat(first|exact ay _ _|refine az ?_ _|refine aF ?_ _|refine aJ ?_))) HB.out Hbx.out Hbk.out Hbc.out).mono ?_
 rintro e w1 ⟨rfl,post⟩
 have hg1:=aq post.1 (aj (n:=w.heap.size) (by simp)) (by omega)
 obtain⟨⟨d0,d1,d2,d3⟩,⟨g0,g1,g2,g3⟩,hz⟩:=bB hg1
 have POST:=kH post
 clear post
 generalize (bV (base+0),K.goes call k 0 0)=r at *
 obtain⟨⟨r0,r1,r2,r3⟩,kk⟩:=r
 simp only[ax.val]
 go_wp2
 exact bodyPost_ret (results_cell_row rfl _ _ _ _ _ _ _ rfl (ab (ab (ab (ab hg1)))) Tryz.underlying109 rfl ap) rfl (aC w.heap.size hlt ⟨rfl,POST.out⟩)
theorem xT(w:World)(p:Nat)(base most:Int)(B:List dP)(v:Int) (h:ci w p base most (.func (.func 158) #[.pointer (some ⟨p,0,none⟩)] #[]))(hs:bv w p B)(hb:inB base most) :
  Calls Tryz.prog 288 #[.pointer (some ⟨p,0,none⟩),.int .i64 v] w (aA p base most B (goK base most (.keyOf) v) w):=by
 have HS:=kH hs
 have HP:=kH h
 have HB:=kH hb
 obtain⟨⟨c0,c1,c2⟩,f2,hlt⟩:=bC h
 clear h hs hb
 have hgo:goK base most (.keyOf) v=(goK base most .keyOf v):=rfl
 rw[hgo]
 clear hgo
 go_enter Tryz.func288,Tryz.ntmps288
 go_wp2_with fail
 refine(ye _ p base most (.func (.func 158) #[.pointer (some ⟨p,0,none⟩)] #[]) B v (by repeat first|exact HP.out|refine kO ?_) HB.out).mono ?_
 rintro e w1 ⟨rfl,post⟩
 have hg1:=aq post.1 (aj (n:=w.heap.size) (by simp)) (by omega)
 obtain⟨⟨d0,d1,d2,d3⟩,⟨g0,g1,g2,g3⟩,hz⟩:=bB hg1
 have POST:=kH post
 clear post
 generalize (goK base most .keyOf v)=r at *
 obtain⟨⟨r0,r1,r2,r3⟩,kk⟩:=r
 simp only[ax.val]
 go_wp2
 exact bodyPost_ret (results_cell_row rfl _ _ _ _ _ _ _ rfl (ab (ab (ab (ab hg1)))) Tryz.underlying109 rfl ap) rfl (aC w.heap.size hlt ⟨rfl,POST.out⟩)
theorem vo(w:World)(p:Nat)(base most:Int)(B:List dP)(v:Int) (bx:Nat)(h:ci w p base most (.func (.func 189) #[] #[.pointer (some ⟨bx,0,none⟩)]))(hs:bv w p B)(hb:inB base most)(hbx:XB B p bx) :
  Calls Tryz.prog 288 #[.pointer (some ⟨p,0,none⟩),.int .i64 v] w (aA p base most B (goK base most (.keyOf1) v) w):=by
 have Hbx:=kH hbx
 have HS:=kH hs
 have HP:=kH h
 have HB:=kH hb
 obtain⟨⟨c0,c1,c2⟩,f2,hlt⟩:=bC h
 clear h hs hb hbx
 have hgo:goK base most (.keyOf1) v=(endK v 0):=rfl
 rw[hgo]
 clear hgo
 go_enter Tryz.func288,Tryz.ntmps288
 go_wp2_with fail
 refine(vH _ p base most (.func (.func 189) #[] #[.pointer (some ⟨bx,0,none⟩)]) B v bx (by repeat first|exact HP.out|refine kO ?_) (HS.out.keep (by repeat(first|exact ay _ _|refine az ?_ _|refine aF ?_ _|refine aJ ?_))) HB.out Hbx.out).mono ?_
 rintro e w1 ⟨rfl,post⟩
 have hg1:=aq post.1 (aj (n:=w.heap.size) (by simp)) (by omega)
 obtain⟨⟨d0,d1,d2,d3⟩,⟨g0,g1,g2,g3⟩,hz⟩:=bB hg1
 have POST:=kH post
 clear post
 generalize (endK v 0)=r at *
 obtain⟨⟨r0,r1,r2,r3⟩,kk⟩:=r
 simp only[ax.val]
 go_wp2
 exact bodyPost_ret (results_cell_row rfl _ _ _ _ _ _ _ rfl (ab (ab (ab (ab hg1)))) Tryz.underlying109 rfl ap) rfl (aC w.heap.size hlt ⟨rfl,POST.out⟩)
theorem vp(w:World)(p:Nat)(base most:Int)(B:List dP)(v:Int)(n:Int)(bx bn:Nat)(h:ci w p base most (.func (.func 190) #[] #[.pointer (some ⟨bx,0,none⟩),.pointer (some ⟨bn,0,none⟩)]))(hs:bv w p B)(hb:inB base most)(hbx:XB B p bx)(hbn:VB B n bn)(hn:0<=n/\n<=most) :
  Calls Tryz.prog 288 #[.pointer (some ⟨p,0,none⟩),.int .i64 v] w (aA p base most B (goK base most (.counts n) v) w):=by
 have Hbx:=kH hbx
 have Hbn:=kH hbn
 have HS:=kH hs
 have HP:=kH h
 have HB:=kH hb
 obtain⟨⟨c0,c1,c2⟩,f2,hlt⟩:=bC h
 clear h hs hb hbx hbn
 have hgo:goK base most (.counts n) v=(goK base most (.counts n) v):=rfl
 rw[hgo]
 clear hgo
 go_enter Tryz.func288,Tryz.ntmps288
 go_wp2_with fail
 refine(ua _ p base most (.func (.func 190) #[] #[.pointer (some ⟨bx,0,none⟩),.pointer (some ⟨bn,0,none⟩)]) B n v bx bn (by repeat first|exact HP.out|refine kO ?_) (HS.out.keep (by repeat(first|exact ay _ _|refine az ?_ _|refine aF ?_ _|refine aJ ?_))) HB.out Hbx.out Hbn.out hn).mono ?_
 rintro e w1 ⟨rfl,post⟩
 have hg1:=aq post.1 (aj (n:=w.heap.size) (by simp)) (by omega)
 obtain⟨⟨d0,d1,d2,d3⟩,⟨g0,g1,g2,g3⟩,hz⟩:=bB hg1
 have POST:=kH post
 clear post
 generalize (goK base most (.counts n) v)=r at *
 obtain⟨⟨r0,r1,r2,r3⟩,kk⟩:=r
 simp only[ax.val]
 go_wp2
 exact bodyPost_ret (results_cell_row rfl _ _ _ _ _ _ _ rfl (ab (ab (ab (ab hg1)))) Tryz.underlying109 rfl ap) rfl (aC w.heap.size hlt ⟨rfl,POST.out⟩)
theorem AK(w:World)(p:Nat)(base most:Int)(B:List dP)(v:Int)(call k cell n:Int)(bx bn bt t1 t2 t3 bc bk:Nat)(h:ci w p base most (.func (.func 192) #[] #[.pointer (some ⟨bx,0,none⟩),.pointer (some ⟨bn,0,none⟩),.pointer (some ⟨bt,0,none⟩),.pointer (some ⟨bc,0,none⟩),.pointer (some ⟨bk,0,none⟩)]))(hs:bv w p B)(hb:inB base most)(hbx:XB B p bx)(hbn:VB B n bn)(hbt:⟨bt,#[.func (.func 163) #[] #[.pointer (some ⟨t1,0,none⟩),.pointer (some ⟨t2,0,none⟩),.pointer (some ⟨t3,0,none⟩)]],245⟩∈B)(ht1:IB B call t1)(ht2:XB B p t2)(ht3:VB B k t3)(hbc:IB B cell bc)(hbk:VB B k bk)(hn:0<=n/\n<=most) :
  Calls Tryz.prog 288 #[.pointer (some ⟨p,0,none⟩),.int .i64 v] w (aA p base most B (goK base most (.goes call k cell n) v) w):=by
 have Hbx:=kH hbx
 have Hbn:=kH hbn
 have Hbt:=kH hbt
 have Ht1:=kH ht1
 have Ht2:=kH ht2
 have Ht3:=kH ht3
 have Hbc:=kH hbc
 have Hbk:=kH hbk
 have HS:=kH hs
 have HP:=kH h
 have HB:=kH hb
 obtain⟨⟨c0,c1,c2⟩,f2,hlt⟩:=bC h
 clear h hs hb hbx hbn hbt ht1 ht2 ht3 hbc hbk
 have hgo:goK base most (.goes call k cell n) v=(goK base most (.goes call k cell n) v):=rfl
 rw[hgo]
 clear hgo
 go_enter Tryz.func288,Tryz.ntmps288
 go_wp2_with fail
 refine(yu _ p base most (.func (.func 192) #[] #[.pointer (some ⟨bx,0,none⟩),.pointer (some ⟨bn,0,none⟩),.pointer (some ⟨bt,0,none⟩),.pointer (some ⟨bc,0,none⟩),.pointer (some ⟨bk,0,none⟩)]) B call k cell n v bx bn bt t1 t2 t3 bc bk (by repeat first|exact HP.out|refine kO ?_) (HS.out.keep (by repeat(first|exact ay _ _|refine az ?_ _|refine aF ?_ _|refine aJ ?_))) HB.out Hbx.out Hbn.out Hbt.out Ht1.out Ht2.out Ht3.out Hbc.out Hbk.out hn).mono ?_
 rintro e w1 ⟨rfl,post⟩
 have hg1:=aq post.1 (aj (n:=w.heap.size) (by simp)) (by omega)
 obtain⟨⟨d0,d1,d2,d3⟩,⟨g0,g1,g2,g3⟩,hz⟩:=bB hg1
 have POST:=kH post
 clear post
 generalize (goK base most (.goes call k cell n) v)=r at *
 obtain⟨⟨r0,r1,r2,r3⟩,kk⟩:=r
 simp only[ax.val]
 go_wp2
 exact bodyPost_ret (results_cell_row rfl _ _ _ _ _ _ _ rfl (ab (ab (ab (ab hg1)))) Tryz.underlying109 rfl ap) rfl (aC w.heap.size hlt ⟨rfl,POST.out⟩)
theorem xU(w:World)(p:Nat)(base most:Int)(B:List dP)(v:Int)(call k cell n q:Int)(bk bt t1 t2 t3 bc bp bx bn:Nat)(h:ci w p base most (.func (.func 193) #[] #[.pointer (some ⟨bk,0,none⟩),.pointer (some ⟨bt,0,none⟩),.pointer (some ⟨bc,0,none⟩),.pointer (some ⟨bp,0,none⟩),.pointer (some ⟨bx,0,none⟩),.pointer (some ⟨bn,0,none⟩)]))(hs:bv w p B)(hb:inB base most)(hbk:VB B k bk)(hbt:⟨bt,#[.func (.func 163) #[] #[.pointer (some ⟨t1,0,none⟩),.pointer (some ⟨t2,0,none⟩),.pointer (some ⟨t3,0,none⟩)]],245⟩∈B)(ht1:IB B call t1)(ht2:XB B p t2)(ht3:VB B k t3)(hbc:IB B cell bc)(hbp:VB B q bp)(hbx:XB B p bx)(hbn:VB B n bn)(hn:0<=n/\n<most)(hl:bg most q) :
  Calls Tryz.prog 288 #[.pointer (some ⟨p,0,none⟩),.int .i64 v] w (aA p base most B (goK base most (.goes1 call k cell n q) v) w):=by
 have Hbk:=kH hbk
 have Hbt:=kH hbt
 have Ht1:=kH ht1
 have Ht2:=kH ht2
 have Ht3:=kH ht3
 have Hbc:=kH hbc
 have Hbp:=kH hbp
 have Hbx:=kH hbx
 have Hbn:=kH hbn
 have HS:=kH hs
 have HP:=kH h
 have HB:=kH hb
 obtain⟨⟨c0,c1,c2⟩,f2,hlt⟩:=bC h
 clear h hs hb hbk hbt ht1 ht2 ht3 hbc hbp hbx hbn
 have hgo:goK base most (.goes1 call k cell n q) v=(goK base most (.goes1 call k cell n q) v):=rfl
 rw[hgo]
 clear hgo
 go_enter Tryz.func288,Tryz.ntmps288
 go_wp2_with fail
 refine(vU _ p base most (.func (.func 193) #[] #[.pointer (some ⟨bk,0,none⟩),.pointer (some ⟨bt,0,none⟩),.pointer (some ⟨bc,0,none⟩),.pointer (some ⟨bp,0,none⟩),.pointer (some ⟨bx,0,none⟩),.pointer (some ⟨bn,0,none⟩)]) B call k cell n q v bk bt t1 t2 t3 bc bp bx bn (by repeat first|exact HP.out|refine kO ?_) (HS.out.keep (by repeat(first|exact ay _ _|refine az ?_ _|refine aF ?_ _|refine aJ ?_))) HB.out Hbk.out Hbt.out Ht1.out Ht2.out Ht3.out Hbc.out Hbp.out Hbx.out Hbn.out hn hl).mono ?_
 rintro e w1 ⟨rfl,post⟩
 have hg1:=aq post.1 (aj (n:=w.heap.size) (by simp)) (by omega)
 obtain⟨⟨d0,d1,d2,d3⟩,⟨g0,g1,g2,g3⟩,hz⟩:=bB hg1
 have POST:=kH post
 clear post
 generalize (goK base most (.goes1 call k cell n q) v)=r at *
 obtain⟨⟨r0,r1,r2,r3⟩,kk⟩:=r
 simp only[ax.val]
 go_wp2
 exact bodyPost_ret (results_cell_row rfl _ _ _ _ _ _ _ rfl (ab (ab (ab (ab hg1)))) Tryz.underlying109 rfl ap) rfl (aC w.heap.size hlt ⟨rfl,POST.out⟩)
theorem AQ(w:World)(p:Nat)(base most:Int)(B:List dP)(v:Int)(k:Int)(d:WayD)(bx bl:Nat)(h:ci w p base most (.func (.func 199) #[] #[.pointer (some ⟨bx,0,none⟩),.pointer (some ⟨bl,0,none⟩)]))(hs:bv w p B)(hb:inB base most)(hbx:XB B p bx)(hbl:iT B p k d bl) :
  Calls Tryz.prog 288 #[.pointer (some ⟨p,0,none⟩),.int .i64 v] w (aA p base most B (goK base most (.addF k d) v) w):=by
 have Hbx:=kH hbx
 have Hbl:=kH hbl
 have HS:=kH hs
 have HP:=kH h
 have HB:=kH hb
 obtain⟨⟨c0,c1,c2⟩,f2,hlt⟩:=bC h
 clear h hs hb hbx hbl
 have hgo:goK base most (.addF k d) v=(goK base most (.addF k d) v):=rfl
 rw[hgo]
 clear hgo
 go_enter Tryz.func288,Tryz.ntmps288
 go_wp2_with fail
 refine(Bu _ p base most (.func (.func 199) #[] #[.pointer (some ⟨bx,0,none⟩),.pointer (some ⟨bl,0,none⟩)]) B k v d bx bl (by repeat first|exact HP.out|refine kO ?_) (HS.out.keep (by repeat(first|exact ay _ _|refine az ?_ _|refine aF ?_ _|refine aJ ?_))) HB.out Hbx.out Hbl.out).mono ?_
 rintro e w1 ⟨rfl,post⟩
 have hg1:=aq post.1 (aj (n:=w.heap.size) (by simp)) (by omega)
 obtain⟨⟨d0,d1,d2,d3⟩,⟨g0,g1,g2,g3⟩,hz⟩:=bB hg1
 have POST:=kH post
 clear post
 generalize (goK base most (.addF k d) v)=r at *
 obtain⟨⟨r0,r1,r2,r3⟩,kk⟩:=r
 simp only[ax.val]
 go_wp2
 exact bodyPost_ret (results_cell_row rfl _ _ _ _ _ _ _ rfl (ab (ab (ab (ab hg1)))) Tryz.underlying109 rfl ap) rfl (aC w.heap.size hlt ⟨rfl,POST.out⟩)
theorem AP(w:World)(p:Nat)(base most:Int)(B:List dP)(v:Int)(k f:Int)(d:WayD)(bx bl bf:Nat)(h:ci w p base most (.func (.func 200) #[] #[.pointer (some ⟨bx,0,none⟩),.pointer (some ⟨bl,0,none⟩),.pointer (some ⟨bf,0,none⟩)]))(hs:bv w p B)(hb:inB base most)(hbx:XB B p bx)(hbl:iT B p k d bl)(hbf:VB B f bf) :
  Calls Tryz.prog 288 #[.pointer (some ⟨p,0,none⟩),.int .i64 v] w (aA p base most B (goK base most (.addQ k d f) v) w):=by
 have Hbx:=kH hbx
 have Hbl:=kH hbl
 have Hbf:=kH hbf
 have HS:=kH hs
 have HP:=kH h
 have HB:=kH hb
 obtain⟨⟨c0,c1,c2⟩,f2,hlt⟩:=bC h
 clear h hs hb hbx hbl hbf
 have hgo:goK base most (.addQ k d f) v=(bN (base+1) v,K.put (.lays1 k d f)):=rfl
 rw[hgo]
 clear hgo
 go_enter Tryz.func288,Tryz.ntmps288
 go_wp2_with fail
 refine(Bt _ p base most (.func (.func 200) #[] #[.pointer (some ⟨bx,0,none⟩),.pointer (some ⟨bl,0,none⟩),.pointer (some ⟨bf,0,none⟩)]) B k v f d bx bl bf (by repeat first|exact HP.out|refine kO ?_) (HS.out.keep (by repeat(first|exact ay _ _|refine az ?_ _|refine aF ?_ _|refine aJ ?_))) HB.out Hbx.out Hbl.out Hbf.out).mono ?_
 rintro e w1 ⟨rfl,post⟩
 have hg1:=aq post.1 (aj (n:=w.heap.size) (by simp)) (by omega)
 obtain⟨⟨d0,d1,d2,d3⟩,⟨g0,g1,g2,g3⟩,hz⟩:=bB hg1
 have POST:=kH post
 clear post
 generalize (bN (base+1) v,K.put (.lays1 k d f))=r at *
 obtain⟨⟨r0,r1,r2,r3⟩,kk⟩:=r
 simp only[ax.val]
 go_wp2
 exact bodyPost_ret (results_cell_row rfl _ _ _ _ _ _ _ rfl (ab (ab (ab (ab hg1)))) Tryz.underlying109 rfl ap) rfl (aC w.heap.size hlt ⟨rfl,POST.out⟩)
theorem AO(w:World)(p:Nat)(base most:Int)(B:List dP)(v:Int)(k:Int)(d:WayD)(bx bl:Nat)(h:ci w p base most (.func (.func 202) #[] #[.pointer (some ⟨bx,0,none⟩),.pointer (some ⟨bl,0,none⟩)]))(hs:bv w p B)(hb:inB base most)(hbx:XB B p bx)(hbl:iT B p k d bl) :
  Calls Tryz.prog 288 #[.pointer (some ⟨p,0,none⟩),.int .i64 v] w (aA p base most B (goK base most (.addU k d) v) w):=by
 have Hbx:=kH hbx
 have Hbl:=kH hbl
 have HS:=kH hs
 have HP:=kH h
 have HB:=kH hb
 obtain⟨⟨c0,c1,c2⟩,f2,hlt⟩:=bC h
 clear h hs hb hbx hbl
 have hgo:goK base most (.addU k d) v=(goK base most (.addU k d) v):=rfl
 rw[hgo]
 clear hgo
 go_enter Tryz.func288,Tryz.ntmps288
 go_wp2_with fail
 refine(Br _ p base most (.func (.func 202) #[] #[.pointer (some ⟨bx,0,none⟩),.pointer (some ⟨bl,0,none⟩)]) B k v d bx bl (by repeat first|exact HP.out|refine kO ?_) (HS.out.keep (by repeat(first|exact ay _ _|refine az ?_ _|refine aF ?_ _|refine aJ ?_))) HB.out Hbx.out Hbl.out).mono ?_
 rintro e w1 ⟨rfl,post⟩
 have hg1:=aq post.1 (aj (n:=w.heap.size) (by simp)) (by omega)
 obtain⟨⟨d0,d1,d2,d3⟩,⟨g0,g1,g2,g3⟩,hz⟩:=bB hg1
 have POST:=kH post
 clear post
 generalize (goK base most (.addU k d) v)=r at *
 obtain⟨⟨r0,r1,r2,r3⟩,kk⟩:=r
 simp only[ax.val]
 go_wp2
 exact bodyPost_ret (results_cell_row rfl _ _ _ _ _ _ _ rfl (ab (ab (ab (ab hg1)))) Tryz.underlying109 rfl ap) rfl (aC w.heap.size hlt ⟨rfl,POST.out⟩)
theorem AM(w:World)(p:Nat)(base most:Int)(B:List dP)(v:Int)(d:WayD)(bx bw:Nat)(h:ci w p base most (.func (.func 204) #[] #[.pointer (some ⟨bx,0,none⟩),.pointer (some ⟨bw,0,none⟩)]))(hs:bv w p B)(hb:inB base most)(hbx:XB B p bx)(hbw:WB B d bw)(hc:eB d.cell) :
  Calls Tryz.prog 288 #[.pointer (some ⟨p,0,none⟩),.int .i64 v] w (aA p base most B (goK base most (.delQ d) v) w):=by
 have Hbx:=kH hbx
 have Hbw:=kH hbw
 have HS:=kH hs
 have HP:=kH h
 have HB:=kH hb
 obtain⟨⟨c0,c1,c2⟩,f2,hlt⟩:=bC h
 clear h hs hb hbx hbw
 have hgo:goK base most (.delQ d) v=(bN (base+d.cell) v,K.put (.delW d)):=rfl
 rw[hgo]
 clear hgo
 go_enter Tryz.func288,Tryz.ntmps288
 go_wp2_with fail
 refine(Bf _ p base most (.func (.func 204) #[] #[.pointer (some ⟨bx,0,none⟩),.pointer (some ⟨bw,0,none⟩)]) B v d bx bw (by repeat first|exact HP.out|refine kO ?_) (HS.out.keep (by repeat(first|exact ay _ _|refine az ?_ _|refine aF ?_ _|refine aJ ?_))) HB.out Hbx.out Hbw.out hc).mono ?_
 rintro e w1 ⟨rfl,post⟩
 have hg1:=aq post.1 (aj (n:=w.heap.size) (by simp)) (by omega)
 obtain⟨⟨d0,d1,d2,d3⟩,⟨g0,g1,g2,g3⟩,hz⟩:=bB hg1
 have POST:=kH post
 clear post
 generalize (bN (base+d.cell) v,K.put (.delW d))=r at *
 obtain⟨⟨r0,r1,r2,r3⟩,kk⟩:=r
 simp only[ax.val]
 go_wp2
 exact bodyPost_ret (results_cell_row rfl _ _ _ _ _ _ _ rfl (ab (ab (ab (ab hg1)))) Tryz.underlying109 rfl ap) rfl (aC w.heap.size hlt ⟨rfl,POST.out⟩)
theorem AN(w:World)(p:Nat)(base most:Int)(B:List dP)(v:Int)(d:WayD)(bx bw:Nat)(h:ci w p base most (.func (.func 206) #[] #[.pointer (some ⟨bx,0,none⟩),.pointer (some ⟨bw,0,none⟩)]))(hs:bv w p B)(hb:inB base most)(hbx:XB B p bx)(hbw:WB B d bw)(hl:bg most d.p) :
  Calls Tryz.prog 288 #[.pointer (some ⟨p,0,none⟩),.int .i64 v] w (aA p base most B (goK base most (.delF d) v) w):=by
 have Hbx:=kH hbx
 have Hbw:=kH hbw
 have HS:=kH hs
 have HP:=kH h
 have HB:=kH hb
 obtain⟨⟨c0,c1,c2⟩,f2,hlt⟩:=bC h
 clear h hs hb hbx hbw
 have hgo:goK base most (.delF d) v=(bN (base+linkI d.p) v,K.put (.delL d)):=rfl
 rw[hgo]
 clear hgo
 go_enter Tryz.func288,Tryz.ntmps288
 go_wp2_with fail
 refine(Bh _ p base most (.func (.func 206) #[] #[.pointer (some ⟨bx,0,none⟩),.pointer (some ⟨bw,0,none⟩)]) B v d bx bw (by repeat first|exact HP.out|refine kO ?_) (HS.out.keep (by repeat(first|exact ay _ _|refine az ?_ _|refine aF ?_ _|refine aJ ?_))) HB.out Hbx.out Hbw.out hl).mono ?_
 rintro e w1 ⟨rfl,post⟩
 have hg1:=aq post.1 (aj (n:=w.heap.size) (by simp)) (by omega)
 obtain⟨⟨d0,d1,d2,d3⟩,⟨g0,g1,g2,g3⟩,hz⟩:=bB hg1
 have POST:=kH post
 clear post
 generalize (bN (base+linkI d.p) v,K.put (.delL d))=r at *
 obtain⟨⟨r0,r1,r2,r3⟩,kk⟩:=r
 simp only[ax.val]
 go_wp2
 exact bodyPost_ret (results_cell_row rfl _ _ _ _ _ _ _ rfl (ab (ab (ab (ab hg1)))) Tryz.underlying109 rfl ap) rfl (aC w.heap.size hlt ⟨rfl,POST.out⟩)
theorem qE(w:World)(p:Nat)(base most:Int)(B:List dP)(v:Int)(k f:Int)(d:WayD)(s3:Nat)(bl s1 s2 bf bt:Nat)(h:ci w p base most (.func (.func 228) #[] #[.pointer (some ⟨bt,0,none⟩)]))(hs:bv w p B)(hb:inB base most)(hbl:⟨bl,#[.func (.func 194) #[] #[.pointer (some ⟨s1,0,none⟩),.pointer (some ⟨s2,0,none⟩),.pointer (some ⟨s3,0,none⟩)]],131⟩∈B)(hs1:XB B p s1)(hs2:VB B k s2)(hbf:VB B f bf)(hbt:⟨bt,#[.func (.func 201) #[] #[.pointer (some ⟨bl,0,none⟩),.pointer (some ⟨bf,0,none⟩)]],266⟩∈B)(hs3:WB B d s3)(hl:bg most f) :
  Calls Tryz.prog 288 #[.pointer (some ⟨p,0,none⟩),.int .i64 v] w (aA p base most B (goK base most (.put (.lays1 k d f)) v) w):=by
 have Hbl:=kH hbl
 have Hs1:=kH hs1
 have Hs2:=kH hs2
 have Hbf:=kH hbf
 have Hbt:=kH hbt
 have HS:=kH hs
 have HP:=kH h
 have HB:=kH hb
 obtain⟨⟨c0,c1,c2⟩,f2,hlt⟩:=bC h
 clear h hs hb hbl hs1 hs2 hbf hbt
 have hgo:goK base most (.put (.lays1 k d f)) v=(gE base k d f):=rfl
 rw[hgo]
 clear hgo
 go_enter Tryz.func288,Tryz.ntmps288
 go_wp2_with fail
 refine(B5 _ p base most (.func (.func 228) #[] #[.pointer (some ⟨bt,0,none⟩)]) B v k f d s3 bl s1 s2 bf bt (by repeat first|exact HP.out|refine kO ?_) (HS.out.keep (by repeat(first|exact ay _ _|refine az ?_ _|refine aF ?_ _|refine aJ ?_))) HB.out Hbl.out Hs1.out Hs2.out Hbf.out Hbt.out hs3 hl).mono ?_
 rintro e w1 ⟨rfl,post⟩
 have hg1:=aq post.1 (aj (n:=w.heap.size) (by simp)) (by omega)
 obtain⟨⟨d0,d1,d2,d3⟩,⟨g0,g1,g2,g3⟩,hz⟩:=bB hg1
 have POST:=kH post
 clear post
 generalize (gE base k d f)=r at *
 obtain⟨⟨r0,r1,r2,r3⟩,kk⟩:=r
 simp only[ax.val]
 go_wp2
 exact bodyPost_ret (results_cell_row rfl _ _ _ _ _ _ _ rfl (ab (ab (ab (ab hg1)))) Tryz.underlying109 rfl ap) rfl (aC w.heap.size hlt ⟨rfl,POST.out⟩)
theorem qD(w:World)(p:Nat)(base most:Int)(B:List dP)(v:Int)(k f:Int)(d:WayD)(s3:Nat)(bl s1 s2 bf bt:Nat)(h:ci w p base most (.func (.func 228) #[] #[.pointer (some ⟨bt,0,none⟩)]))(hs:bv w p B)(hb:inB base most)(hbl:⟨bl,#[.func (.func 194) #[] #[.pointer (some ⟨s1,0,none⟩),.pointer (some ⟨s2,0,none⟩),.pointer (some ⟨s3,0,none⟩)]],131⟩∈B)(hs1:XB B p s1)(hs2:VB B k s2)(hbf:VB B f bf)(hbt:⟨bt,#[.func (.func 203) #[] #[.pointer (some ⟨bl,0,none⟩),.pointer (some ⟨bf,0,none⟩)]],266⟩∈B)(hs3:WB B d s3)(hf:0<=f/\f<most) :
  Calls Tryz.prog 288 #[.pointer (some ⟨p,0,none⟩),.int .i64 v] w (aA p base most B (goK base most (.put (.lays2 k d f)) v) w):=by
 have Hbl:=kH hbl
 have Hs1:=kH hs1
 have Hs2:=kH hs2
 have Hbf:=kH hbf
 have Hbt:=kH hbt
 have HS:=kH hs
 have HP:=kH h
 have HB:=kH hb
 obtain⟨⟨c0,c1,c2⟩,f2,hlt⟩:=bC h
 clear h hs hb hbl hs1 hs2 hbf hbt
 have hgo:goK base most (.put (.lays2 k d f)) v=(gE base k d (f+1)):=rfl
 rw[hgo]
 clear hgo
 go_enter Tryz.func288,Tryz.ntmps288
 go_wp2_with fail
 refine(B0 _ p base most (.func (.func 228) #[] #[.pointer (some ⟨bt,0,none⟩)]) B v k f d s3 bl s1 s2 bf bt (by repeat first|exact HP.out|refine kO ?_) (HS.out.keep (by repeat(first|exact ay _ _|refine az ?_ _|refine aF ?_ _|refine aJ ?_))) HB.out Hbl.out Hs1.out Hs2.out Hbf.out Hbt.out hs3 hf).mono ?_
 rintro e w1 ⟨rfl,post⟩
 have hg1:=aq post.1 (aj (n:=w.heap.size) (by simp)) (by omega)
 obtain⟨⟨d0,d1,d2,d3⟩,⟨g0,g1,g2,g3⟩,hz⟩:=bB hg1
 have POST:=kH post
 clear post
 generalize (gE base k d (f+1))=r at *
 obtain⟨⟨r0,r1,r2,r3⟩,kk⟩:=r
 simp only[ax.val]
 go_wp2
 exact bodyPost_ret (results_cell_row rfl _ _ _ _ _ _ _ rfl (ab (ab (ab (ab hg1)))) Tryz.underlying109 rfl ap) rfl (aC w.heap.size hlt ⟨rfl,POST.out⟩)
theorem tH(w:World)(p:Nat)(base most:Int)(B:List dP)(v:Int)(k node:Int)(d:WayD)(bx bn bw bt:Nat)(h:ci w p base most (.func (.func 228) #[] #[.pointer (some ⟨bt,0,none⟩)]))(hs:bv w p B)(hb:inB base most)(hbx:XB B p bx)(hbn:VB B node bn)(hbw:WB B d bw)(hbt:⟨bt,#[.func (.func 196) #[] #[.pointer (some ⟨bx,0,none⟩),.pointer (some ⟨bn,0,none⟩),.pointer (some ⟨bw,0,none⟩)]],266⟩∈B)(hl:bg most node) :
  Calls Tryz.prog 288 #[.pointer (some ⟨p,0,none⟩),.int .i64 v] w (aA p base most B (goK base most (.put (.key k d node)) v) w):=by
 have Hbx:=kH hbx
 have Hbn:=kH hbn
 have Hbw:=kH hbw
 have Hbt:=kH hbt
 have HS:=kH hs
 have HP:=kH h
 have HB:=kH hb
 obtain⟨⟨c0,c1,c2⟩,f2,hlt⟩:=bC h
 clear h hs hb hbx hbn hbw hbt
 have hgo:goK base most (.put (.key k d node)) v=(bN (base+linkI node) d.p,K.put (.link k d node)):=rfl
 rw[hgo]
 clear hgo
 go_enter Tryz.func288,Tryz.ntmps288
 go_wp2_with fail
 refine(w1_key _ p base most (.func (.func 228) #[] #[.pointer (some ⟨bt,0,none⟩)]) B v k node d bx bn bw bt (by repeat first|exact HP.out|refine kO ?_) (HS.out.keep (by repeat(first|exact ay _ _|refine az ?_ _|refine aF ?_ _|refine aJ ?_))) HB.out Hbx.out Hbn.out Hbw.out Hbt.out hl).mono ?_
 rintro e w1 ⟨rfl,post⟩
 have hg1:=aq post.1 (aj (n:=w.heap.size) (by simp)) (by omega)
 obtain⟨⟨d0,d1,d2,d3⟩,⟨g0,g1,g2,g3⟩,hz⟩:=bB hg1
 have POST:=kH post
 clear post
 generalize (bN (base+linkI node) d.p,K.put (.link k d node))=r at *
 obtain⟨⟨r0,r1,r2,r3⟩,kk⟩:=r
 simp only[ax.val]
 go_wp2
 exact bodyPost_ret (results_cell_row rfl _ _ _ _ _ _ _ rfl (ab (ab (ab (ab hg1)))) Tryz.underlying109 rfl ap) rfl (aC w.heap.size hlt ⟨rfl,POST.out⟩)
theorem rM(w:World)(p:Nat)(base most:Int)(B:List dP)(v:Int)(k node:Int)(d:WayD)(bx bw bn bt:Nat)(h:ci w p base most (.func (.func 228) #[] #[.pointer (some ⟨bt,0,none⟩)]))(hs:bv w p B)(hb:inB base most)(hbx:XB B p bx)(hbw:WB B d bw)(hbn:VB B node bn)(hbt:⟨bt,#[.func (.func 197) #[] #[.pointer (some ⟨bx,0,none⟩),.pointer (some ⟨bw,0,none⟩),.pointer (some ⟨bn,0,none⟩)]],266⟩∈B)(hc:eB d.cell) :
  Calls Tryz.prog 288 #[.pointer (some ⟨p,0,none⟩),.int .i64 v] w (aA p base most B (goK base most (.put (.link k d node)) v) w):=by
 have Hbx:=kH hbx
 have Hbw:=kH hbw
 have Hbn:=kH hbn
 have Hbt:=kH hbt
 have HS:=kH hs
 have HP:=kH h
 have HB:=kH hb
 obtain⟨⟨c0,c1,c2⟩,f2,hlt⟩:=bC h
 clear h hs hb hbx hbw hbn hbt
 have hgo:goK base most (.put (.link k d node)) v=(bN (base+d.cell) node,K.put .fin):=rfl
 rw[hgo]
 clear hgo
 go_enter Tryz.func288,Tryz.ntmps288
 go_wp2_with fail
 refine(w1_link _ p base most (.func (.func 228) #[] #[.pointer (some ⟨bt,0,none⟩)]) B v node d bx bw bn bt (by repeat first|exact HP.out|refine kO ?_) (HS.out.keep (by repeat(first|exact ay _ _|refine az ?_ _|refine aF ?_ _|refine aJ ?_))) HB.out Hbx.out Hbw.out Hbn.out Hbt.out hc).mono ?_
 rintro e w1 ⟨rfl,post⟩
 have hg1:=aq post.1 (aj (n:=w.heap.size) (by simp)) (by omega)
 obtain⟨⟨d0,d1,d2,d3⟩,⟨g0,g1,g2,g3⟩,hz⟩:=bB hg1
 have POST:=kH post
 clear post
 generalize (bN (base+d.cell) node,K.put .fin)=r at *
 obtain⟨⟨r0,r1,r2,r3⟩,kk⟩:=r
 simp only[ax.val]
 go_wp2
 exact bodyPost_ret (results_cell_row rfl _ _ _ _ _ _ _ rfl (ab (ab (ab (ab hg1)))) Tryz.underlying109 rfl ap) rfl (aC w.heap.size hlt ⟨rfl,POST.out⟩)
theorem tI(w:World)(p:Nat)(base most:Int)(B:List dP)(v:Int) (bx bt:Nat)(h:ci w p base most (.func (.func 228) #[] #[.pointer (some ⟨bt,0,none⟩)]))(hs:bv w p B)(hb:inB base most)(hbx:XB B p bx)(hbt:⟨bt,#[.func (.func 198) #[] #[.pointer (some ⟨bx,0,none⟩)]],266⟩∈B) :
  Calls Tryz.prog 288 #[.pointer (some ⟨p,0,none⟩),.int .i64 v] w (aA p base most B (goK base most (.put .fin) v) w):=by
 have Hbx:=kH hbx
 have Hbt:=kH hbt
 have HS:=kH hs
 have HP:=kH h
 have HB:=kH hb
 obtain⟨⟨c0,c1,c2⟩,f2,hlt⟩:=bC h
 clear h hs hb hbx hbt
 have hgo:goK base most (.put .fin) v=(endK 0 0):=rfl
 rw[hgo]
 clear hgo
 go_enter Tryz.func288,Tryz.ntmps288
 go_wp2_with fail
 refine(w1_fin _ p base most (.func (.func 228) #[] #[.pointer (some ⟨bt,0,none⟩)]) B v  bx bt (by repeat first|exact HP.out|refine kO ?_) (HS.out.keep (by repeat(first|exact ay _ _|refine az ?_ _|refine aF ?_ _|refine aJ ?_))) HB.out Hbx.out Hbt.out ).mono ?_
 rintro e w1 ⟨rfl,post⟩
 have hg1:=aq post.1 (aj (n:=w.heap.size) (by simp)) (by omega)
 obtain⟨⟨d0,d1,d2,d3⟩,⟨g0,g1,g2,g3⟩,hz⟩:=bB hg1
 have POST:=kH post
 clear post
 generalize (endK 0 0)=r at *
 obtain⟨⟨r0,r1,r2,r3⟩,kk⟩:=r
 simp only[ax.val]
 go_wp2
 exact bodyPost_ret (results_cell_row rfl _ _ _ _ _ _ _ rfl (ab (ab (ab (ab hg1)))) Tryz.underlying109 rfl ap) rfl (aC w.heap.size hlt ⟨rfl,POST.out⟩)
theorem rN(w:World)(p:Nat)(base most:Int)(B:List dP)(v:Int)(d:WayD)(bx bw bt:Nat)(h:ci w p base most (.func (.func 228) #[] #[.pointer (some ⟨bt,0,none⟩)]))(hs:bv w p B)(hb:inB base most)(hbx:XB B p bx)(hbw:WB B d bw)(hbt:⟨bt,#[.func (.func 205) #[] #[.pointer (some ⟨bx,0,none⟩),.pointer (some ⟨bw,0,none⟩)]],266⟩∈B) :
  Calls Tryz.prog 288 #[.pointer (some ⟨p,0,none⟩),.int .i64 v] w (aA p base most B (goK base most (.put (.delW d)) v) w):=by
 have Hbx:=kH hbx
 have Hbw:=kH hbw
 have Hbt:=kH hbt
 have HS:=kH hs
 have HP:=kH h
 have HB:=kH hb
 obtain⟨⟨c0,c1,c2⟩,f2,hlt⟩:=bC h
 clear h hs hb hbx hbw hbt
 have hgo:goK base most (.put (.delW d)) v=(bV (base+1),K.delF d):=rfl
 rw[hgo]
 clear hgo
 go_enter Tryz.func288,Tryz.ntmps288
 go_wp2_with fail
 refine(w1_delW _ p base most (.func (.func 228) #[] #[.pointer (some ⟨bt,0,none⟩)]) B v d bx bw bt (by repeat first|exact HP.out|refine kO ?_) (HS.out.keep (by repeat(first|exact ay _ _|refine az ?_ _|refine aF ?_ _|refine aJ ?_))) HB.out Hbx.out Hbw.out Hbt.out ).mono ?_
 rintro e w1 ⟨rfl,post⟩
 have hg1:=aq post.1 (aj (n:=w.heap.size) (by simp)) (by omega)
 obtain⟨⟨d0,d1,d2,d3⟩,⟨g0,g1,g2,g3⟩,hz⟩:=bB hg1
 have POST:=kH post
 clear post
 generalize (bV (base+1),K.delF d)=r at *
 obtain⟨⟨r0,r1,r2,r3⟩,kk⟩:=r
 simp only[ax.val]
 go_wp2
 exact bodyPost_ret (results_cell_row rfl _ _ _ _ _ _ _ rfl (ab (ab (ab (ab hg1)))) Tryz.underlying109 rfl ap) rfl (aC w.heap.size hlt ⟨rfl,POST.out⟩)
theorem rO(w:World)(p:Nat)(base most:Int)(B:List dP)(v:Int)(d:WayD)(bx bw bt:Nat)(h:ci w p base most (.func (.func 228) #[] #[.pointer (some ⟨bt,0,none⟩)]))(hs:bv w p B)(hb:inB base most)(hbx:XB B p bx)(hbw:WB B d bw)(hbt:⟨bt,#[.func (.func 207) #[] #[.pointer (some ⟨bx,0,none⟩),.pointer (some ⟨bw,0,none⟩)]],266⟩∈B) :
  Calls Tryz.prog 288 #[.pointer (some ⟨p,0,none⟩),.int .i64 v] w (aA p base most B (goK base most (.put (.delL d)) v) w):=by
 have Hbx:=kH hbx
 have Hbw:=kH hbw
 have Hbt:=kH hbt
 have HS:=kH hs
 have HP:=kH h
 have HB:=kH hb
 obtain⟨⟨c0,c1,c2⟩,f2,hlt⟩:=bC h
 clear h hs hb hbx hbw hbt
 have hgo:goK base most (.put (.delL d)) v=(bN (base+1) d.p,K.put .delFin):=rfl
 rw[hgo]
 clear hgo
 go_enter Tryz.func288,Tryz.ntmps288
 go_wp2_with fail
 refine(w1_delL _ p base most (.func (.func 228) #[] #[.pointer (some ⟨bt,0,none⟩)]) B v d bx bw bt (by repeat first|exact HP.out|refine kO ?_) (HS.out.keep (by repeat(first|exact ay _ _|refine az ?_ _|refine aF ?_ _|refine aJ ?_))) HB.out Hbx.out Hbw.out Hbt.out ).mono ?_
 rintro e w1 ⟨rfl,post⟩
 have hg1:=aq post.1 (aj (n:=w.heap.size) (by simp)) (by omega)
 obtain⟨⟨d0,d1,d2,d3⟩,⟨g0,g1,g2,g3⟩,hz⟩:=bB hg1
 have POST:=kH post
 clear post
 generalize (bN (base+1) d.p,K.put .delFin)=r at *
 obtain⟨⟨r0,r1,r2,r3⟩,kk⟩:=r
 simp only[ax.val]
 go_wp2
 exact bodyPost_ret (results_cell_row rfl _ _ _ _ _ _ _ rfl (ab (ab (ab (ab hg1)))) Tryz.underlying109 rfl ap) rfl (aC w.heap.size hlt ⟨rfl,POST.out⟩)
theorem pA(w:World)(p:Nat)(base most:Int)(B:List dP)(v:Int) (bx bt:Nat)(h:ci w p base most (.func (.func 228) #[] #[.pointer (some ⟨bt,0,none⟩)]))(hs:bv w p B)(hb:inB base most)(hbx:XB B p bx)(hbt:⟨bt,#[.func (.func 208) #[] #[.pointer (some ⟨bx,0,none⟩)]],266⟩∈B) :
  Calls Tryz.prog 288 #[.pointer (some ⟨p,0,none⟩),.int .i64 v] w (aA p base most B (goK base most (.put .delFin) v) w):=by
 have Hbx:=kH hbx
 have Hbt:=kH hbt
 have HS:=kH hs
 have HP:=kH h
 have HB:=kH hb
 obtain⟨⟨c0,c1,c2⟩,f2,hlt⟩:=bC h
 clear h hs hb hbx hbt
 have hgo:goK base most (.put .delFin) v=(endK 0 0):=rfl
 rw[hgo]
 clear hgo
 go_enter Tryz.func288,Tryz.ntmps288
 go_wp2_with fail
 refine(Ai _ p base most (.func (.func 228) #[] #[.pointer (some ⟨bt,0,none⟩)]) B v  bx bt (by repeat first|exact HP.out|refine kO ?_) (HS.out.keep (by repeat(first|exact ay _ _|refine az ?_ _|refine aF ?_ _|refine aJ ?_))) HB.out Hbx.out Hbt.out ).mono ?_
 rintro e w1 ⟨rfl,post⟩
 have hg1:=aq post.1 (aj (n:=w.heap.size) (by simp)) (by omega)
 obtain⟨⟨d0,d1,d2,d3⟩,⟨g0,g1,g2,g3⟩,hz⟩:=bB hg1
 have POST:=kH post
 clear post
 generalize (endK 0 0)=r at *
 obtain⟨⟨r0,r1,r2,r3⟩,kk⟩:=r
 simp only[ax.val]
 go_wp2
 exact bodyPost_ret (results_cell_row rfl _ _ _ _ _ _ _ rfl (ab (ab (ab (ab hg1)))) Tryz.underlying109 rfl ap) rfl (aC w.heap.size hlt ⟨rfl,POST.out⟩)
theorem AL(w:World)(p:Nat)(base most:Int)(B:List dP)(v:Int)(x:ax)(bw:Nat)(h:ci w p base most (.func (.func 209) #[] #[.pointer (some ⟨bw,0,none⟩)]))(hs:bv w p B)(hb:inB base most)(hw:⟨bw,#[.int .i64 x.kind,.int .i64 x.cell,.int .i64 x.value,.int .i64 x.code],109⟩∈B) :
  Calls Tryz.prog 288 #[.pointer (some ⟨p,0,none⟩),.int .i64 v] w (aA p base most B (goK base most (.done x) v) w):=by
 have HS:=kH hs
 have HP:=kH h
 have HB:=kH hb
 obtain⟨⟨c0,c1,c2⟩,f2,hlt⟩:=bC h
 clear h hs hb
 have hgo:goK base most (.done x) v=(x,K.done x):=rfl
 rw[hgo]
 clear hgo
 go_enter Tryz.func288,Tryz.ntmps288
 go_wp2_with fail
 refine(yy _ p base most _ B v x bw (by repeat first|exact HP.out|refine kO ?_) (HS.out.keep (by repeat(first|exact ay _ _|refine az ?_ _|refine aF ?_ _|refine aJ ?_))) hw ⟨bw,hw,rfl⟩).mono ?_
 rintro e w1 ⟨rfl,post⟩
 have hg1:=aq post.1 (aj (n:=w.heap.size) (by simp)) (by omega)
 obtain⟨⟨d0,d1,d2,d3⟩,⟨g0,g1,g2,g3⟩,hz⟩:=bB hg1
 have POST:=kH post
 clear post
 generalize (x,K.done x)=r at *
 obtain⟨⟨r0,r1,r2,r3⟩,kk⟩:=r
 simp only[ax.val]
 go_wp2
 exact bodyPost_ret (results_cell_row rfl _ _ _ _ _ _ _ rfl (ab (ab (ab (ab hg1)))) Tryz.underlying109 rfl ap) rfl (aC w.heap.size hlt ⟨rfl,POST.out⟩)
end Chn
end Go.Proofs.YtgfogfciobmmpaaGreatDoor
