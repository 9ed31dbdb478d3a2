/- A part of the proof of a law of carouseltop: Dic5. -/
import Derived.Test.YtgfogfciobmmpaaGreatDoorBBa
set_option linter.unusedSimpArgs false
set_option linter.unusedVariables false
set_option maxRecDepth 100000
set_option maxHeartbeats 8000000
namespace Go.Proofs.YtgfogfciobmmpaaGreatDoor
open Go.RowKit
section
variable {w0:World}{X:List Nat}{Cs:List aw}{w:World}{p:Nat}{d:eC}{tv nx:Value}
theorem wq(hS:ah w0 X (ag p (dI d tv nx)::Cs) w)(hok:dO d)(ht:kS tv)(v:Int):Calls Tryz.prog 184 #[ptr p,.int .i64 v] w (cA w0 X Cs p (iB d v 0)):=by
 obtain⟨hlt,⟨c0,c1,c2,c3,c4⟩,⟨c5,c6,c7,c8,c9⟩,⟨f5,f6,f7,f8,f9⟩⟩:=j9 hS
 have HD:=kH hok
 have HTL:=kH ht
 have S1:=(hS.new s0).sw
 have HC:=kH (ir S1 ht v 0)
 clear S1 hS hok ht
 unfold ptr s0 at *
 go_enter Tryz.func184,Tryz.ntmps184
 go_wp2_with fail
 refine HC.out.mono ?_
 rintro e w1 ⟨rfl,hA⟩
 obtain⟨⟨a0,a1,a2,a3⟩,⟨g0,g1,g2,g3⟩⟩:=hA.box
 have HA:=kH hA
 clear hA
 generalize iB d v 0=r at *
 unfold ax.val
 go_wp2
 exact cA.ret r rfl HA.out rfl rfl
theorem wk(hS:ah w0 X (ag p (dI d tv nx)::Cs) w)(hok:dO d)(ht:kS tv)(v:Int):Calls Tryz.prog 247 #[ptr p,.int .i64 v] w (cA w0 X Cs p (iB d v 0)):=by
 obtain⟨hlt,⟨c0,c1,c2,c3,c4⟩,⟨c5,c6,c7,c8,c9⟩,⟨f5,f6,f7,f8,f9⟩⟩:=j9 hS
 have HD:=kH hok
 have HTL:=kH ht
 have S1:=(hS.new s0).sw
 have HC:=kH (ir S1 ht v 0)
 clear S1 hS hok ht
 unfold ptr s0 at *
 go_enter Tryz.func247,Tryz.ntmps247
 go_wp2_with fail
 refine HC.out.mono ?_
 rintro e w1 ⟨rfl,hA⟩
 obtain⟨⟨a0,a1,a2,a3⟩,⟨g0,g1,g2,g3⟩⟩:=hA.box
 have HA:=kH hA
 clear hA
 generalize iB d v 0=r at *
 unfold ax.val
 go_wp2
 exact cA.ret r rfl HA.out rfl rfl
theorem wu(hS:ah w0 X (ag p (dI d tv nx)::Cs) w)(hok:dO d)(ht:kS tv)(v:Int):Calls Tryz.prog 239 #[ptr p,.int .i64 v] w (cA w0 X Cs p (iB d 0 0)):=by
 obtain⟨hlt,⟨c0,c1,c2,c3,c4⟩,⟨c5,c6,c7,c8,c9⟩,⟨f5,f6,f7,f8,f9⟩⟩:=j9 hS
 have HD:=kH hok
 have HTL:=kH ht
 have S1:=(hS.new s0).sw
 have HC:=kH (ir S1 ht 0 0)
 clear S1 hS hok ht
 unfold ptr s0 at *
 go_enter Tryz.func239,Tryz.ntmps239
 go_wp2_with fail
 refine HC.out.mono ?_
 rintro e w1 ⟨rfl,hA⟩
 obtain⟨⟨a0,a1,a2,a3⟩,⟨g0,g1,g2,g3⟩⟩:=hA.box
 have HA:=kH hA
 clear hA
 generalize iB d 0 0=r at *
 unfold ax.val
 go_wp2
 exact cA.ret r rfl HA.out rfl rfl
theorem rR(hS:ah w0 X (ag p (dI d tv nx)::Cs) w)(hok:dO d)(ht:kS tv)(v:Int):Calls Tryz.prog 248 #[ptr p,.int .i64 v] w (cA w0 X Cs p (getD d 0 .count1)):=by
 obtain⟨hlt,⟨c0,c1,c2,c3,c4⟩,⟨c5,c6,c7,c8,c9⟩,⟨f5,f6,f7,f8,f9⟩⟩:=j9 hS
 have HD:=kH hok
 have HTL:=kH ht
 have S1:=(hS.new s0).sw
 have HC:=kH (gi S1 hok ht 0 (by omega) .count1 (by simp))
 clear S1 hS hok ht
 unfold ptr s0 lR iF.fn at *
 simp only at HC
 go_enter Tryz.func248,Tryz.ntmps248
 go_wp2_with fail
 refine HC.out.mono ?_
 rintro e w1 ⟨rfl,hA⟩
 obtain⟨⟨a0,a1,a2,a3⟩,⟨g0,g1,g2,g3⟩⟩:=hA.box
 have HA:=kH hA
 clear hA
 generalize getD d 0 .count1=r at *
 unfold ax.val
 go_wp2
 exact cA.ret r rfl HA.out rfl rfl
def kP(d:eC):ax×fW:=if d.call=5 then getD d 0 .len1 else gz d
theorem t8(hS:ah w0 X (ag p (dI d tv nx)::Cs) w)(hok:dO d)(ht:kS tv)(v:Int):Calls Tryz.prog 153 #[ptr p,.int .i64 v] w (cA w0 X Cs p (kP d)):=by
 obtain⟨hlt,⟨c0,c1,c2,c3,c4⟩,⟨c5,c6,c7,c8,c9⟩,⟨f5,f6,f7,f8,f9⟩⟩:=j9 hS
 have HD:=kH hok
 have HTL:=kH ht
 have S1:=(hS.new s0).sw
 by_cases h5:d.call=5
 ·have e:kP d=getD d 0 .len1:=if_pos h5
  rw[e]
  rw[h5]at c2
  have HC:=kH (gi S1 hok ht 0 (by omega) .len1 (by simp))
  clear S1 hS hok ht e h5
  unfold ptr s0 lR iF.fn at *
  simp only at HC
  go_enter Tryz.func153,Tryz.ntmps153
  go_wp2_with fail
  refine HC.out.mono ?_
  rintro e w1 ⟨rfl,hA⟩
  obtain⟨⟨a0,a1,a2,a3⟩,⟨g0,g1,g2,g3⟩⟩:=hA.box
  have HA:=kH hA
  clear hA
  generalize getD d 0 .len1=r at *
  unfold ax.val
  go_wp2
  exact cA.ret r rfl HA.out rfl rfl
 ·have e:kP d=gz d:=if_neg h5
  rw[e]
  have HC:=kH (ny S1 hok ht)
  clear S1 hS hok ht e
  have h5':(d.call == 5)=false:=by simpa using h5
  unfold ptr s0 at *
  go_enter Tryz.func153,Tryz.ntmps153
  go_wp2_with fail
  refine HC.out.mono ?_
  rintro e w1 ⟨rfl,hA⟩
  obtain⟨⟨a0,a1,a2,a3⟩,⟨g0,g1,g2,g3⟩⟩:=hA.box
  have HA:=kH hA
  clear hA
  generalize gz d=r at *
  unfold ax.val
  go_wp2
  exact cA.ret r rfl HA.out rfl rfl
def mL(d:eC)(c v:Int)(ph:iF):ax×fW:=(bN (d.base+c) v,⟨d,[],ph⟩)
theorem mn{g:Nat}{c v:Int}(hS:ah w0 X (ag p (dI d tv nx)::ag g (.cells #[.int .i64 0,.int .i64 c,.int .i64 v,.int .i64 0] 109 (0,0))::Cs) w)(hok:dO d)(hc:0<=c/\c<=1000)(ph:iF)(hp:∀ x,ph≠.done x)(hn:nx=lR ph.fn) :
  Calls Tryz.prog 240 #[ptr p,.slice (some ⟨g,0,none⟩) 1 1] w (cA w0 X Cs p (mL d c v ph)) :=
 (Dk hS hok.base hc).mono fun _ _ ⟨h1,a,cap,h2⟩=>⟨h1,_,nx,[],[],.inl ⟨rfl,rfl,a,cap,rfl⟩,.inr ⟨hp,hn,rfl⟩,h2⟩
theorem ah.dThen(h:ah w0 X (ag p (dI d tv nx)::Cs) w)(n:Nat):ah w0 X (ag p (dI d tv (lR n))::Cs) (w.setCell ⟨p,9,none⟩ (lR n)):=h.dset 9 _ (by simp[ju])
theorem ah.dOne(h:ah w0 X (ag p (dI d tv nx)::Cs) w)(n:Nat)(c v:Int) :
  ah w0 X (ag p (dI d tv (lR n))::ag (w.heap.size+1) (.cells #[.int .i64 0,.int .i64 c,.int .i64 v,.int .i64 0] 109 (0,0))::ag w.heap.size s0::Cs) (((w.setCell ⟨p,9,none⟩ (lR n)).alloc s0).alloc (.cells #[.int .i64 0,.int .i64 c,.int .i64 v,.int .i64 0] 109 (0,0))):=by
 have h1:=(((h.dThen n).new s0).sw).new (.cells #[.int .i64 0,.int .i64 c,.int .i64 v,.int .i64 0] 109 (0,0))
 rw[show((w.setCell ⟨p,9,none⟩ (lR n)).alloc s0).heap.size=w.heap.size+1 by simp,show(w.setCell ⟨p,9,none⟩ (lR n)).heap.size=w.heap.size by simp]at h1
 exact h1.sw
theorem rS(hS:ah w0 X (ag p (dI d tv nx)::Cs) w)(hok:dO d)(ht:kS tv)(v:Int):Calls Tryz.prog 251 #[ptr p,.int .i64 v] w (cA w0 X Cs p (mL d 0 (wrap64 (v-1)) .fine)):=by
 obtain⟨hlt,⟨c0,c1,c2,c3,c4⟩,⟨c5,c6,c7,c8,c9⟩,⟨f5,f6,f7,f8,f9⟩⟩:=j9 hS
 have HD:=kH hok
 have HTL:=kH ht
 have HC:=kH (mn (hS.dOne 239 0 (wrap64 (v-1))) hok (by omega) .fine (by simp) rfl)
 clear hS hok ht
 unfold ptr s0 lR at *
 go_enter Tryz.func251,Tryz.ntmps251
 go_wp2_with fail
 refine HC.out.mono ?_
 rintro e w1 ⟨rfl,hA⟩
 obtain⟨⟨a0,a1,a2,a3⟩,⟨g0,g1,g2,g3⟩⟩:=hA.box
 have HA:=kH hA
 clear hA
 generalize mL d 0 (wrap64 (v-1)) .fine=r at *
 unfold ax.val
 go_wp2
 exact cA.ret r rfl HA.out rfl rfl
def oC(d:eC)(v:Int):ax×fW:=if v=d.k then(if d.call=2 then getD d (1+3*d.slot+2) .val1 else if d.call=3 then mL d (1+3*d.slot+2) d.v .fine else mL d (1+3*d.slot) 2 .counts)else kG d
theorem yz(hS:ah w0 X (ag p (dI d tv nx)::Cs) w)(hok:dO d)(ht:kS tv)(hl:d.seen<d.most)(v:Int):Calls Tryz.prog 241 #[ptr p,.int .i64 v] w (cA w0 X Cs p (oC d v)):=by
 obtain⟨hlt,⟨c0,c1,c2,c3,c4⟩,⟨c5,c6,c7,c8,c9⟩,⟨f5,f6,f7,f8,f9⟩⟩:=j9 hS
 have HD:=kH hok
 have HTL:=kH ht
 have HAT:=kH (fun W=>lE d.slot (by have:=hok.slot;have:=hok.most;omega) W)
 have hok':=hok.slot
 have hm':=hok.most
 have S1:=(hS.new s0).sw
 by_cases hk:v=d.k
 ·subst hk
  by_cases h2:d.call=2
  ·have e:oC d d.k=getD d (1+3*d.slot+2) .val1:=by simp[oC,h2]
   rw[e]
   rw[h2]at c2
   have HC:=kH (gi S1 hok ht (1+3*d.slot+2) (by omega) .val1 (by simp))
   clear S1 hS hok ht e h2
   unfold ptr s0 lR iF.fn at *
   simp only at HC
   go_enter Tryz.func241,Tryz.ntmps241
   go_wp2_with(go_at_call 226;refine(HAT.out _).mono ?_;rintro e' w' ⟨rfl,rfl⟩)
   refine HC.out.mono ?_
   rintro e w1 ⟨rfl,hA⟩
   obtain⟨⟨a0,a1,a2,a3⟩,⟨g0,g1,g2,g3⟩⟩:=hA.box
   have HA:=kH hA
   clear hA
   generalize getD d (1+3*d.slot+2) .val1=r at *
   unfold ax.val
   go_wp2
   exact cA.ret r rfl HA.out rfl rfl
  ·have h2':(d.call == 2)=false:=by simpa using h2
   by_cases h3:d.call=3
   ·have e:oC d d.k=mL d (1+3*d.slot+2) d.v .fine:=by simp[oC,h3]
    rw[e]
    rw[h3]at c2
    have HC:=kH (fun n=>mn ((hS.dOne 239 (1+3*d.slot+2) d.v).drewN n) hok (by omega) .fine (by simp) rfl)
    clear S1 hS hok ht e h2 h2' h3
    unfold ptr s0 lR at *
    go_enter Tryz.func241,Tryz.ntmps241
    go_wp2_with(go_at_call 226;refine(HAT.out _).mono ?_;rintro e' w' ⟨rfl,rfl⟩)
    have hw:IntKind.i64.wrap (1+3*d.slot+2)=1+3*d.slot+2:=IntWalk.i64_in _ (by omega)
    go_region_with(first|(go_at_call 226;refine(HAT.out _).mono ?_;rintro e' w' ⟨rfl,rfl⟩)|(go_at_call 240;refine(HC.out _).mono ?_;rintro e1 w1 ⟨rfl,hA⟩;obtain⟨⟨a0,a1,a2,a3⟩,⟨g0,g1,g2,g3⟩⟩:=hA.box;have HA:=kH hA;clear hA;unfold ax.val))
    all_goals
     go_wp2
     exact cA.ret (mL d (1+3*d.slot+2) d.v .fine) rfl HA.out rfl rfl
   ·have e:oC d d.k=mL d (1+3*d.slot) 2 .counts:=by simp[oC,h2,h3]
    rw[e]
    have h3':(d.call == 3)=false:=by simpa using h3
    have HC:=kH (mn (hS.dOne 248 (1+3*d.slot) 2) hok (by omega) .counts (by simp) rfl)
    clear S1 hS hok ht e
    unfold ptr s0 lR at *
    go_enter Tryz.func241,Tryz.ntmps241
    go_wp2_with(go_at_call 226;refine(HAT.out _).mono ?_;rintro e' w' ⟨rfl,rfl⟩)
    refine HC.out.mono ?_
    rintro e w1 ⟨rfl,hA⟩
    obtain⟨⟨a0,a1,a2,a3⟩,⟨g0,g1,g2,g3⟩⟩:=hA.box
    have HA:=kH hA
    clear hA
    generalize mL d (1+3*d.slot) 2 .counts=r at *
    unfold ax.val
    go_wp2
    exact cA.ret r rfl HA.out rfl rfl
 ·have e:oC d v=kG d:=if_neg hk
  rw[e]
  have hk':(v != d.k)=true:=by simpa using hk
  have HC:=kH (kJ S1 hok ht hl)
  clear S1 hS hok ht e
  unfold ptr s0 at *
  go_enter Tryz.func241,Tryz.ntmps241
  go_wp2_with fail
  refine HC.out.mono ?_
  rintro e w1 ⟨rfl,hA⟩
  obtain⟨⟨a0,a1,a2,a3⟩,⟨g0,g1,g2,g3⟩⟩:=hA.box
  have HA:=kH hA
  clear hA
  generalize kG d=r at *
  unfold ax.val
  go_wp2
  exact cA.ret r rfl HA.out rfl rfl
def o5(d:eC)(v:Int):ax×fW:=if d.most<=v\/d.free<0 then iB d 0 2 else
 (bN (1+3*d.free+d.base) 1,⟨d,[bN (1+3*d.free+1+d.base) d.k,bN (1+3*d.free+2+d.base) d.v,bN (0+d.base) (wrap64 (v+1))],.fine⟩)
theorem wm{g:Nat}{c1 c2 c3 c4 v1 v2 v3 v4:Int}(hS:ah w0 X (ag p (dI d tv nx)::ag g (oW 0 c1 v1 c2 v2 c3 v3 c4 v4)::Cs) w)(hok:dO d)(h1:0<=c1/\c1<=1000)(h2:0<=c2/\c2<=1000)(h3:0<=c3/\c3<=1000)(h4:0<=c4/\c4<=1000)(hn:nx=lR iF.fine.fn) :
  Calls Tryz.prog 240 #[ptr p,.slice (some ⟨g,0,none⟩) 4 4] w (cA w0 X Cs p (bN (c1+d.base) v1,⟨d,[bN (c2+d.base) v2,bN (c3+d.base) v3,bN (c4+d.base) v4],.fine⟩)) :=
 (Dj hS hok.base h1 h2 h3 h4).mono fun _ _ ⟨h1,h2⟩=>⟨by rw[h1,Int.add_comm],_,nx,_,[],.inr ⟨g,_,_,_,_,_,_,_,_,rfl,.inl ⟨rfl,rfl⟩⟩,.inr ⟨by simp,hn,rfl⟩,h2⟩
theorem ah.dFour(h:ah w0 X (ag p (dI d tv nx)::Cs) w)(n:Nat)(c1 v1 c2 v2 c3 v3 c4 v4:Int) :
  ah w0 X (ag p (dI d tv (lR n))::ag (w.heap.size+1) (oW 0 c1 v1 c2 v2 c3 v3 c4 v4)::ag w.heap.size s0::Cs) (((w.setCell ⟨p,9,none⟩ (lR n)).alloc s0).alloc (oW 0 c1 v1 c2 v2 c3 v3 c4 v4)):=by
 have h1:=(((h.dThen n).new s0).sw).new (oW 0 c1 v1 c2 v2 c3 v3 c4 v4)
 rw[show((w.setCell ⟨p,9,none⟩ (lR n)).alloc s0).heap.size=w.heap.size+1 by simp,show(w.setCell ⟨p,9,none⟩ (lR n)).heap.size=w.heap.size by simp]at h1
 exact h1.sw
theorem t6(hS:ah w0 X (ag p (dI d tv nx)::Cs) w)(hok:dO d)(ht:kS tv)(v:Int):Calls Tryz.prog 238 #[ptr p,.int .i64 v] w (cA w0 X Cs p (o5 d v)):=by
 obtain⟨hlt,⟨c0,c1,c2,c3,c4⟩,⟨c5,c6,c7,c8,c9⟩,⟨f5,f6,f7,f8,f9⟩⟩:=j9 hS
 have HD:=kH hok
 have HTL:=kH ht
 have hm':=hok.most
 have hf':=hok.free
 by_cases h:d.most<=v\/d.free<0
 ·have e:o5 d v=iB d 0 2:=if_pos h
  rw[e]
  have HC:=kH (ir ((hS.new s0).sw) ht 0 2)
  clear hS hok ht e
  unfold ptr s0 at *
  rcases(show d.most<=v\/(v<d.most/\d.free<0)from by omega)with h|⟨h,h'⟩
  all_goals
   go_enter Tryz.func238,Tryz.ntmps238
   go_wp2_with fail
   refine HC.out.mono ?_
   rintro e w1 ⟨rfl,hA⟩
   obtain⟨⟨a0,a1,a2,a3⟩,⟨g0,g1,g2,g3⟩⟩:=hA.box
   have HA:=kH hA
   clear hA
   generalize iB d 0 2=r at *
   unfold ax.val
   go_wp2
   exact cA.ret r rfl HA.out rfl rfl
 ·have e:o5 d v=(bN (1+3*d.free+d.base) 1,⟨d,[bN (1+3*d.free+1+d.base) d.k,bN (1+3*d.free+2+d.base) d.v,bN (0+d.base) (wrap64 (v+1))],.fine⟩):=if_neg h
  rw[e]
  have hv:v<d.most:=by omega
  have hf:¬d.free<0:=by omega
  have HAT:=kH (fun W=>lE d.free (by omega) W)
  have HC:=kH (fun n=>wm ((hS.dFour 239 (1+3*d.free) 1 (1+3*d.free+1) d.k (1+3*d.free+2) d.v 0 (wrap64 (v+1))).drewN n) hok (by omega) (by omega) (by omega) (by omega) rfl)
  have hw0:IntKind.i64.wrap (1+3*d.free)=1+3*d.free:=IntWalk.i64_in _ (by omega)
  have hw1:IntKind.i64.wrap (1+3*d.free+1)=1+3*d.free+1:=IntWalk.i64_in _ (by omega)
  have hw2:IntKind.i64.wrap (1+3*d.free+2)=1+3*d.free+2:=IntWalk.i64_in _ (by omega)
  have hw3:IntKind.i64.wrap (v+1)=wrap64 (v+1):=by rw[IntKind.wrap_i64,wrap64]
  clear hS hok ht e h
  unfold ptr s0 lR oW Ax at *
  go_enter Tryz.func238,Tryz.ntmps238
  go_wp2_with(go_at_call 226;refine(HAT.out _).mono ?_;rintro e' w' ⟨rfl,rfl⟩)
  go_region_with(go_at_call 240;refine(HC.out _).mono ?_;rintro e1 w1 ⟨rfl,hA⟩;obtain⟨⟨a0,a1,a2,a3⟩,⟨g0,g1,g2,g3⟩⟩:=hA.box;have HA:=kH hA;clear hA;unfold ax.val)
  all_goals
   go_wp2
   exact cA.ret (bN (1+3*d.free+d.base) 1,⟨d,[bN (1+3*d.free+1+d.base) d.k,bN (1+3*d.free+2+d.base) d.v,bN (0+d.base) (wrap64 (v+1))],.fine⟩) rfl HA.out rfl rfl
end
end Go.Proofs.YtgfogfciobmmpaaGreatDoor
