/- A part of the proof of a law of carouseltop: Ask0 QueMach16 ChnMach18 ChnMachP18 ChnMachB18 ChnMachC18a ChnMachC18d. -/
import Derived.Test.YtgfogfciobmmpaaGreatDoorBAa
import Derived.Test.YtgfogfciobmmpaaGreatDoorProg
import Derived.KernelRfl
import Derived.Lib.Hide
import Derived.Laws.EntriesVeiled
import Derived.Deep.RegionWith
import Derived.StillTailTactics
set_option linter.unusedSimpArgs false
set_option linter.unusedVariables false
set_option maxRecDepth 100000
set_option maxHeartbeats 8000000
namespace Go.Proofs.YtgfogfciobmmpaaGreatDoor
open Go.RowKit
theorem ap:(Tryz.prog.info? 109).map (·.size)=some 4:=by kernel_rfl
def qf(base most want args:Int):Bool:=decide ((0<=most/\most<=16)/\0<=base/\base<=1024/\want=args)
namespace Que
open Go.RowKit
def u64(x:Int):Int:=x%18446744073709551616
def behindI(f k n:Int):Int:=(u64 f%n+k%n)%n
theorem kh(f:Int):IntKind.u64.wrap f=u64 f:=by
 unfold u64
 simp[IntKind.wrap,IntKind.bits,IntKind.signed]
theorem u64_bounds(f:Int):0<=u64 f/\u64 f<=18446744073709551615:=by unfold u64;omega
theorem behind_bounds(f k n:Int)(h1:1<=n):0<=behindI f k n/\behindI f k n<n :=
 ⟨Int.emod_nonneg _ (by omega),Int.emod_lt_of_pos _ (by omega)⟩
theorem Bl(f k n:Int)(h1:1<=n)(h2:n<=16):wrap64 ((IntKind.u64.wrap ((IntKind.u64.wrap f).tmod n+k%n)).tmod n)=behindI f k n:=by
 have hf:=u64_bounds f
 rw[kh,kh,Int.tmod_eq_emod_of_nonneg hf.1]
 have ha:=Int.emod_nonneg (u64 f) (show n≠0 by omega)
 have ha2:=Int.emod_lt_of_pos (u64 f) (show 0<n by omega)
 have hb:=Int.emod_nonneg k (show n≠0 by omega)
 have hb2:=Int.emod_lt_of_pos k (show 0<n by omega)
 have hs:u64 (u64 f%n+k%n)=u64 f%n+k%n:=by unfold u64 at *;omega
 rw[hs,Int.tmod_eq_emod_of_nonneg (by omega)]
 have hc:=Int.emod_nonneg (u64 f%n+k%n) (show n≠0 by omega)
 have hc2:=Int.emod_lt_of_pos (u64 f%n+k%n) (show 0<n by omega)
 unfold behindI
 unfold wrap64
 omega
def Drew(v:Value)(w:World)(e:Ending)(w':World):Prop:=e=.returned v/\∃ q,w'=w.drewN q
theorem jR(w:World)(f k n:Int)(h1:1<=n)(h2:n<=16)(hk:0<=k)(hk2:k<=18446744073709551615) :
  Calls Tryz.prog 235 #[.int .i64 f,.int .u64 k,.int .i64 n] w (Drew (.int .i64 (behindI f k n)) w):=by
 have h3:(n == 0)=false:=by simp;omega
 have HE:=kH (Bl f k n h1 h2)
 go_enter Tryz.func235,Tryz.ntmps235
 go_wp2
 go_quiet(fail)
 go_wp2
 go_ret
 exact⟨by rw[<-HE.out];rfl,_,rfl⟩
structure QS where
 base:Int
 most:Int
 call:Int
 v:Int
 f:Int
 l:Int
def QS.cells(m:QS)(nx:Value):Array Value:=#[.int .i64 m.base,.int .i64 m.most,.int .i64 m.call,.int .i64 m.v,nx,.int .i64 m.f,.int .i64 m.l]
def fg(w:World)(p:Nat)(m:QS)(nx:Value):Prop:=w.heap[p]?=some (.cells (m.cells nx) 230 (0,0))
def QS.ok(m:QS):Prop:=0<=m.base/\m.base<=1024/\0<=m.most/\m.most<=16
def BU(n:Nat):Value:=.func (.func n) #[] #[]
def aA(p:Nat)(m:QS)(nx:Value)(x:ax)(w:World)(e:Ending)(w':World):Prop:=e=.returned x.val/\w.grownBy w' (some p)/\fg w' p m nx
theorem iD{w:World}{p:Nat}{m:QS}{nx:Value}(h:fg w p m nx) :
  (w.cell? ⟨p,0,none⟩=some (.int .i64 m.base)/\w.cell? ⟨p,1,none⟩=some (.int .i64 m.most)/\w.cell? ⟨p,2,none⟩=some (.int .i64 m.call)/\w.cell? ⟨p,3,none⟩=some (.int .i64 m.v) /\
   w.cell? ⟨p,4,none⟩=some nx/\w.cell? ⟨p,5,none⟩=some (.int .i64 m.f)/\w.cell? ⟨p,6,none⟩=some (.int .i64 m.l)) /\
  (w.frozen? ⟨p,3,none⟩=false/\w.frozen? ⟨p,4,none⟩=false/\w.frozen? ⟨p,5,none⟩=false/\w.frozen? ⟨p,6,none⟩=false)/\p<w.heap.size:=by
 unfold fg QS.cells at h
 have hc:=fun j=>cell_of_row w p j _ _ _ h
 have hf:=fun j=>frozen_of_row w p j _ _ h
 refine⟨⟨?_,?_,?_,?_,?_,?_,?_⟩,⟨hf 3,hf 4,hf 5,hf 6⟩,(Array.getElem?_eq_some_iff.1 h).1⟩
 ·simpa using hc 0
 ·simpa using hc 1
 ·simpa using hc 2
 ·simpa using hc 3
 ·simpa using hc 4
 ·simpa using hc 5
 ·simpa using hc 6
theorem lZ(w:World)(p:Nat)(m:QS)(nx:Value)(cell:Int)(n:Nat)(h:fg w p m nx)(hm:m.ok)(hc:0<=cell/\cell<=100) :
  Calls Tryz.prog 181 #[.pointer (some ⟨p,0,none⟩),.int .i64 cell,.func (.func n) #[] #[]] w (aA p m (BU n) (bV (m.base+cell)) w):=by
 obtain⟨⟨c0,c1,c2,c3,c4,c5,c6⟩,⟨f3,f4,f5,f6⟩,hlt⟩:=iD h
 have HP:=kH h
 obtain⟨base,most,call,v,f,l⟩:=m
 obtain⟨hb0,hb1,hm0,hm1⟩:=hm
 obtain⟨hc0,hc1⟩:=hc
 dsimp only at hb0 hb1 hm0 hm1 c0
 clear h
 go_enter Tryz.func181,Tryz.ntmps181
 go_wp2
 refine bodyPost_ret (results_cell_row rfl _ _ _ _ _ _ _ rfl (aj (by simp)) Tryz.underlying109 rfl ap) rfl ⟨rfl,az (bD (ay _ _) _) _,?_⟩
 exact kO (ab HP.out)
-- STEPS
theorem iH(w:World)(p:Nat)(m:QS)(nx:Value)(cell v:Int)(n:Nat)(h:fg w p m nx)(hm:m.ok)(hc:0<=cell/\cell<=100) :
  Calls Tryz.prog 234 #[.pointer (some ⟨p,0,none⟩),.int .i64 cell,.int .i64 v,.func (.func n) #[] #[]] w (aA p m (BU n) (bN (m.base+cell) v) w):=by
 obtain⟨⟨c0,c1,c2,c3,c4,c5,c6⟩,⟨f3,f4,f5,f6⟩,hlt⟩:=iD h
 have HP:=kH h
 obtain⟨base,most,call,v0,f,l⟩:=m
 obtain⟨hb0,hb1,hm0,hm1⟩:=hm
 obtain⟨hc0,hc1⟩:=hc
 dsimp only at hb0 hb1 hm0 hm1 c0
 clear h
 go_enter Tryz.func234,Tryz.ntmps234
 go_wp2
 refine bodyPost_ret (results_cell_row rfl _ _ _ _ _ _ _ rfl (aj (by simp)) Tryz.underlying109 rfl ap) rfl ⟨rfl,az (bD (ay _ _) _) _,?_⟩
 exact kO (ab HP.out)
def cg(p:Nat)(m:QS)(x:ax)(w:World)(e:Ending)(w':World):Prop :=
 e=.returned x.val/\w.grownBy w' (some p)/\∃ c,w.heap.size<=c/\fg w' p m (.func (.func 244) #[] #[.pointer (some ⟨c,0,none⟩)]) /\
  w'.heap[c]?=some (.cells #[.int .i64 x.kind,.int .i64 x.cell,.int .i64 x.value,.int .i64 x.code] 109 (0,0))
theorem gh(w:World)(p:Nat)(m:QS)(nx:Value)(v code:Int)(h:fg w p m nx) :
  Calls Tryz.prog 233 #[.pointer (some ⟨p,0,none⟩),.int .i64 v,.int .i64 code] w (cg p m ⟨6,0,v,code⟩ w):=by
 obtain⟨⟨c0,c1,c2,c3,c4,c5,c6⟩,⟨f3,f4,f5,f6⟩,hlt⟩:=iD h
 have HP:=kH h
 clear h
 go_enter Tryz.func233,Tryz.ntmps233
 go_wp2
 refine bodyPost_ret (results_cell_row rfl _ _ _ _ _ _ _ rfl (kO (aj (by simp))) Tryz.underlying109 rfl ap) rfl ⟨rfl,az (az (bD (ay _ _) _) _) _,w.heap.size+1,by omega,kO (kO (ab HP.out)),aj (by simp)⟩
theorem fH{a b c:World}{r:Option Nat}(h:a.grownBy b r)(k:b.grownBy c r):a.grownBy c r :=
 ⟨k.os.trans h.os,k.tape.trans h.tape,k.output.trans h.output,Nat.le_trans h.size k.size,fun q hq hne=>(k.block q (Nat.lt_of_lt_of_le hq h.size) hne).trans (h.block q hq hne)⟩
theorem qZ{w w1:World}{p g:Nat}{m:QS}{nx:Value}{x:ax}{o:Obj}{a b c d:Value}(hlt:p<w.heap.size)(hg:g=w.heap.size)(h1:(w.alloc o).grownBy w1 (some p))(h2:fg w1 p m nx){e:Ending}(he:e=.returned x.val) :
  aA p m nx x w e ((((w1.setCell ⟨g,0,none⟩ a).setCell ⟨g,1,none⟩ b).setCell ⟨g,2,none⟩ c).setCell ⟨g,3,none⟩ d):=by
 have hs:=h1.size
 have hs':w.heap.size+1<=w1.heap.size:=by simpa using hs
 refine⟨he,⟨h1.os,h1.tape,h1.output,by simp;omega,fun k hk hne=>?_⟩,?_⟩
 ·have e:g≠k:=by omega
  rw[Below.heap_setCell _ _ _ _ (by simpa using e.symm),Below.heap_setCell _ _ _ _ (by simpa using e.symm),Below.heap_setCell _ _ _ _ (by simpa using e.symm),Below.heap_setCell _ _ _ _ (by simpa using e.symm),h1.block k (by simp;omega) hne]
  exact Below.heap_alloc _ _ _ hk
 ·exact al (al (al (al h2 (by simp;omega)) (by simp;omega)) (by simp;omega)) (by simp;omega)
theorem wH(w:World)(p:Nat)(m:QS)(nx:Value)(v:Int)(h:fg w p m nx)(hm:m.ok) :
  Calls Tryz.prog 151 #[.pointer (some ⟨p,0,none⟩),.int .i64 v] w (aA p m (BU 182) (bV m.base) w):=by
 obtain⟨⟨c0,c1,c2,c3,c4,c5,c6⟩,⟨f3,f4,f5,f6⟩,hlt⟩:=iD h
 have HP:=kH h
 have HM:=kH hm
 obtain⟨hb0,hb1,hm0,hm1⟩:=hm
 clear h
 go_enter Tryz.func151,Tryz.ntmps151
 go_wp2_with(go_at_call 181;refine(lZ _ p m nx 0 182 (kO HP.out) HM.out (by omega)).mono ?_;rintro e w1 ⟨rfl,post1⟩;have hg1:=aq post1.1 (aj (n:=w.heap.size) (by simp)) (by omega);obtain⟨⟨d0,d1,d2,d3⟩,⟨g0,g1,g2,g3⟩,hz⟩:=bB hg1;simp only[ax.val])
 exact bodyPost_ret (results_cell_row rfl _ _ _ _ _ _ _ rfl (ab (ab (ab (ab hg1)))) Tryz.underlying109 rfl ap) rfl (qZ hlt rfl post1.1 post1.2 rfl)
theorem ma{w:World}{p:Nat}{m:QS}{nx:Value}{q:Nat}(h:fg w p m nx):fg (w.drewN q) p m nx:=h
theorem il{w:World}{o:Obj}{n q:Nat}(h:n=w.heap.size):((w.alloc o).drewN q).heap[n]?=some o:=aj h
theorem pP{w w0 w1:World}{p g:Nat}{m:QS}{nx:Value}{x:ax}{o:Obj}{a b c d:Value}(h0:w.grownBy w0 (some p))(hlt:p<w0.heap.size)(hg:g=w0.heap.size)(h1:(w0.alloc o).grownBy w1 (some p))(h2:fg w1 p m nx){e:Ending}(he:e=.returned x.val) :
  aA p m nx x w e ((((w1.setCell ⟨g,0,none⟩ a).setCell ⟨g,1,none⟩ b).setCell ⟨g,2,none⟩ c).setCell ⟨g,3,none⟩ d):=by
 obtain⟨k1,k2,k3⟩:=qZ (a:=a) (b:=b) (c:=c) (d:=d) hlt hg h1 h2 he
 exact⟨k1,fH h0 k2,k3⟩
theorem ud{w w1:World}{p g:Nat}{m:QS}{x:ax}{o:Obj}{a b c d:Value}(hlt:p<w.heap.size)(hg:g=w.heap.size){v1:Value}(h1:cg p m x (w.alloc o) (.returned v1) w1){e:Ending}(he:e=.returned x.val) :
  cg p m x w e ((((w1.setCell ⟨g,0,none⟩ a).setCell ⟨g,1,none⟩ b).setCell ⟨g,2,none⟩ c).setCell ⟨g,3,none⟩ d):=by
 obtain⟨-,h2,k,h3,h4,h5⟩:=h1
 obtain⟨-,g1,g2⟩:=qZ (x:=x) (a:=a) (b:=b) (c:=c) (d:=d) (e:=.returned x.val) hlt hg h2 h4 rfl
 have hk:w.heap.size+1<=k:=by simpa using h3
 exact⟨he,g1,k,by omega,g2,al (al (al (al h5 (by simp;omega)) (by simp;omega)) (by simp;omega)) (by simp;omega)⟩
theorem nB{w w0 w1:World}{p g:Nat}{m:QS}{x:ax}{o:Obj}{a b c d:Value}(h0:w.grownBy w0 (some p))(hlt:p<w0.heap.size)(hg:g=w0.heap.size){v1:Value}(h1:cg p m x (w0.alloc o) (.returned v1) w1){e:Ending}(he:e=.returned x.val) :
  cg p m x w e ((((w1.setCell ⟨g,0,none⟩ a).setCell ⟨g,1,none⟩ b).setCell ⟨g,2,none⟩ c).setCell ⟨g,3,none⟩ d):=by
 obtain⟨k1,k2,k,k3,k4⟩:=ud (a:=a) (b:=b) (c:=c) (d:=d) hlt hg h1 he
 exact⟨k1,fH h0 k2,k,Nat.le_trans h0.size k3,k4⟩
theorem wi(w:World)(c:Nat)(x:ax)(u v:Value)(h:w.heap[c]?=some (.cells #[.int .i64 x.kind,.int .i64 x.cell,.int .i64 x.value,.int .i64 x.code] 109 (0,0))) :
  Calls Tryz.prog 244 #[u,v,.pointer (some ⟨c,0,none⟩)] w (dd x.val w):=by
 obtain⟨⟨c0,c1,c2,c3⟩,-,hlt⟩:=bB h
 clear h
 go_enter Tryz.func244,Tryz.ntmps244
 go_wp2
 refine bodyPost_ret (results_cell_row rfl _ _ _ _ _ _ _ rfl (aj (by simp)) Tryz.underlying109 rfl ap) rfl ⟨rfl,ai _ _⟩
theorem px(w:World)(p:Nat)(m:QS)(nx:Value)(v:Int)(h:fg w p m nx)(hm:m.ok) :
  Calls Tryz.prog 182 #[.pointer (some ⟨p,0,none⟩),.int .i64 v] w (aA p {m with f:=v} (BU 223) (bV (m.base+1)) w):=by
 obtain⟨⟨c0,c1,c2,c3,c4,c5,c6⟩,⟨f3,f4,f5,f6⟩,hlt⟩:=iD h
 have HP:=kH h
 have HM:=kH hm
 obtain⟨hb0,hb1,hm0,hm1⟩:=hm
 have HP2:Hid (fg (w.setCell ⟨p,5,none⟩ (.int .i64 v)) p {m with f:=v} nx):=ab HP.out
 have HM2:Hid (QS.ok {m with f:=v}):=HM.out
 clear h
 go_enter Tryz.func182,Tryz.ntmps182
 go_wp2_with(go_at_call 181;refine(lZ _ p {m with f:=v} nx 1 223 (kO HP2.out) HM2.out (by omega)).mono ?_;rintro e w1 ⟨rfl,post1⟩;have hg1:=aq post1.1 (aj (n:=w.heap.size) (by simp)) (by omega);obtain⟨⟨d0,d1,d2,d3⟩,⟨g0,g1,g2,g3⟩,hz⟩:=bB hg1;simp only[ax.val])
 refine bodyPost_ret (results_cell_row rfl _ _ _ _ _ _ _ rfl (ab (ab (ab (ab hg1)))) Tryz.underlying109 rfl ap) rfl ?_
 exact pP (bD (ay _ _) _) (by simpa using hlt) (by simp) post1.1 post1.2 rfl
theorem yd(w:World)(p:Nat)(m:QS)(nx:Value)(v:Int)(h:fg w p m nx)(hm:m.ok) :
  Calls Tryz.prog 236 #[.pointer (some ⟨p,0,none⟩),.int .i64 v] w (aA p m (BU 245) (bN (m.base+1) (wrap64 (m.l+1))) w):=by
 obtain⟨⟨c0,c1,c2,c3,c4,c5,c6⟩,⟨f3,f4,f5,f6⟩,hlt⟩:=iD h
 have HP:=kH h
 have HM:=kH hm
 obtain⟨hb0,hb1,hm0,hm1⟩:=hm
 clear h
 go_enter Tryz.func236,Tryz.ntmps236
 go_wp2_with(go_at_call 234;refine(iH _ p m nx 1 _ 245 (kO HP.out) HM.out (by omega)).mono ?_;rintro e w1 ⟨rfl,post1⟩;have hg1:=aq post1.1 (aj (n:=w.heap.size) (by simp)) (by omega);obtain⟨⟨d0,d1,d2,d3⟩,⟨g0,g1,g2,g3⟩,hz⟩:=bB hg1;simp only[ax.val])
 exact bodyPost_ret (results_cell_row rfl _ _ _ _ _ _ _ rfl (ab (ab (ab (ab hg1)))) Tryz.underlying109 rfl ap) rfl (qZ hlt rfl post1.1 post1.2 rfl)
theorem vq(w:World)(p:Nat)(m:QS)(nx:Value)(v:Int)(h:fg w p m nx)(hm:m.ok) :
  Calls Tryz.prog 246 #[.pointer (some ⟨p,0,none⟩),.int .i64 v] w (aA p m (BU 250) (bN (m.base+1) (wrap64 (m.l-1))) w):=by
 obtain⟨⟨c0,c1,c2,c3,c4,c5,c6⟩,⟨f3,f4,f5,f6⟩,hlt⟩:=iD h
 have HP:=kH h
 have HM:=kH hm
 obtain⟨hb0,hb1,hm0,hm1⟩:=hm
 clear h
 go_enter Tryz.func246,Tryz.ntmps246
 go_wp2_with(go_at_call 234;refine(iH _ p m nx 1 _ 250 (kO HP.out) HM.out (by omega)).mono ?_;rintro e w1 ⟨rfl,post1⟩;have hg1:=aq post1.1 (aj (n:=w.heap.size) (by simp)) (by omega);obtain⟨⟨d0,d1,d2,d3⟩,⟨g0,g1,g2,g3⟩,hz⟩:=bB hg1;simp only[ax.val])
 exact bodyPost_ret (results_cell_row rfl _ _ _ _ _ _ _ rfl (ab (ab (ab (ab hg1)))) Tryz.underlying109 rfl ap) rfl (qZ hlt rfl post1.1 post1.2 rfl)
theorem vG(w:World)(p:Nat)(m:QS)(nx:Value)(v:Int)(h:fg w p m nx) :
  Calls Tryz.prog 245 #[.pointer (some ⟨p,0,none⟩),.int .i64 v] w (cg p m ⟨6,0,0,0⟩ w):=by
 have hlt:p<w.heap.size:=(Array.getElem?_eq_some_iff.1 h).1
 have HP:=kH h
 clear h
 go_enter Tryz.func245,Tryz.ntmps245
 go_wp2_with fail
 refine(gh _ p m nx 0 0 (kO HP.out)).mono ?_
 rintro e w1 ⟨rfl,post1,post2⟩
 have hg1:=aq post1 (aj (n:=w.heap.size) (by simp)) (by omega)
 obtain⟨⟨d0,d1,d2,d3⟩,⟨g0,g1,g2,g3⟩,hz⟩:=bB hg1
 have hd:cg p m ⟨6,0,0,0⟩ (w.alloc (.cells #[.int .i64 0,.int .i64 0,.int .i64 0,.int .i64 0] 109)) (.returned (⟨6,0,0,0⟩:ax).val) w1:=⟨rfl,post1,post2⟩
 have HD:Hid (cg p m ⟨6,0,0,0⟩ (w.alloc (.cells #[.int .i64 0,.int .i64 0,.int .i64 0,.int .i64 0] 109)) (.returned (⟨6,0,0,0⟩:ax).val) w1):=hd
 clear post1 post2 hd
 simp only[ax.val]
 go_wp2
 exact bodyPost_ret (results_cell_row rfl _ _ _ _ _ _ _ rfl (ab (ab (ab (ab hg1)))) Tryz.underlying109 rfl ap) rfl (ud hlt rfl HD.out rfl)
theorem tK(w:World)(p:Nat)(m:QS)(nx:Value)(v:Int)(h:fg w p m nx) :
  Calls Tryz.prog 250 #[.pointer (some ⟨p,0,none⟩),.int .i64 v] w (cg p m ⟨6,0,m.v,0⟩ w):=by
 obtain⟨⟨c0,c1,c2,c3,c4,c5,c6⟩,⟨f3,f4,f5,f6⟩,hlt⟩:=iD h
 have HP:=kH h
 clear h
 go_enter Tryz.func250,Tryz.ntmps250
 go_wp2_with fail
 refine(gh _ p m nx m.v 0 (kO HP.out)).mono ?_
 rintro e w1 ⟨rfl,post1,post2⟩
 have hg1:=aq post1 (aj (n:=w.heap.size) (by simp)) (by omega)
 obtain⟨⟨d0,d1,d2,d3⟩,⟨g0,g1,g2,g3⟩,hz⟩:=bB hg1
 have hd:cg p m ⟨6,0,m.v,0⟩ (w.alloc (.cells #[.int .i64 0,.int .i64 0,.int .i64 0,.int .i64 0] 109)) (.returned (⟨6,0,m.v,0⟩:ax).val) w1:=⟨rfl,post1,post2⟩
 have HD:Hid (cg p m ⟨6,0,m.v,0⟩ (w.alloc (.cells #[.int .i64 0,.int .i64 0,.int .i64 0,.int .i64 0] 109)) (.returned (⟨6,0,m.v,0⟩:ax).val) w1):=hd
 clear post1 post2 hd
 simp only[ax.val]
 go_wp2
 exact bodyPost_ret (results_cell_row rfl _ _ _ _ _ _ _ rfl (ab (ab (ab (ab hg1)))) Tryz.underlying109 rfl ap) rfl (ud hlt rfl HD.out rfl)
theorem A5(w:World)(p:Nat)(m:QS)(nx:Value)(v:Int)(h:fg w p m nx)(hm:m.ok)(h1:1<=m.most) :
  Calls Tryz.prog 237 #[.pointer (some ⟨p,0,none⟩),.int .i64 v] w (aA p {m with v:=v} (BU 246) (bN m.base (behindI m.f 1 m.most)) w):=by
 obtain⟨⟨c0,c1,c2,c3,c4,c5,c6⟩,⟨f3,f4,f5,f6⟩,hlt⟩:=iD h
 have HP:=kH h
 have HM:=kH hm
 obtain⟨hb0,hb1,hm0,hm1⟩:=hm
 have HP2:Hid (fg (w.setCell ⟨p,3,none⟩ (.int .i64 v)) p {m with v:=v} nx):=ab HP.out
 have HM2:Hid (QS.ok {m with v:=v}):=HM.out
 clear h
 go_enter Tryz.func237,Tryz.ntmps237
 go_wp2_with fail
 go_region_with(first|(go_at_call 235;refine(jR _ _ _ _ h1 hm1 (by omega) (by omega)).mono ?_;rintro e w' ⟨rfl,q,rfl⟩)|(go_at_call 234;refine(iH _ p {m with v:=v} nx 0 _ 246 (ma (kO HP2.out)) HM2.out (by omega)).mono ?_;rintro e w1 ⟨rfl,post1⟩;have hg1:=aq post1.1 (il (n:=w.heap.size) (by simp)) (by omega);obtain⟨⟨d0,d1,d2,d3⟩,⟨g0,g1,g2,g3⟩,hz⟩:=bB hg1;simp only[ax.val]))
 all_goals
  go_wp2
  refine bodyPost_ret (results_cell_row rfl _ _ _ _ _ _ _ rfl (ab (ab (ab (ab hg1)))) Tryz.underlying109 rfl ap) rfl ?_
  exact pP (bD (ay _ _) _) (by simpa using hlt) (by simp) (fH (aF (ay _ _) _) post1.1) post1.2 rfl
theorem qd(w:World)(p:Nat)(m:QS)(nx:Value)(v:Int)(h:fg w p m nx)(hm:m.ok)(hc:m.call=5) :
  Calls Tryz.prog 223 #[.pointer (some ⟨p,0,none⟩),.int .i64 v] w (cg p {m with l:=v} ⟨6,0,v,0⟩ w):=by
 obtain⟨⟨c0,c1,c2,c3,c4,c5,c6⟩,⟨f3,f4,f5,f6⟩,hlt⟩:=iD h
 have HP:=kH h
 have HM:=kH hm
 obtain⟨hb0,hb1,hm0,hm1⟩:=hm
 have HP2:Hid (fg (w.setCell ⟨p,6,none⟩ (.int .i64 v)) p {m with l:=v} nx):=ab HP.out
 have HM2:Hid (QS.ok {m with l:=v}):=HM.out
 clear h
 rw[hc]at c2
 clear hc
 go_enter Tryz.func223,Tryz.ntmps223
 go_wp2_with fail
 refine(gh _ p {m with l:=v} nx v 0 (kO HP2.out)).mono ?_
 rintro e w1 ⟨rfl,post1,post2⟩
 have hg1:=aq post1 (aj (n:=w.heap.size) (by simp)) (by omega)
 obtain⟨⟨d0,d1,d2,d3⟩,⟨g0,g1,g2,g3⟩,hz⟩:=bB hg1
 have hd:cg p {m with l:=v} ⟨6,0,v,0⟩ ((w.setCell ⟨p,6,none⟩ (.int .i64 v)).alloc (.cells #[.int .i64 0,.int .i64 0,.int .i64 0,.int .i64 0] 109)) (.returned (⟨6,0,v,0⟩:ax).val) w1:=⟨rfl,post1,post2⟩
 have HD:Hid (cg p {m with l:=v} ⟨6,0,v,0⟩ ((w.setCell ⟨p,6,none⟩ (.int .i64 v)).alloc (.cells #[.int .i64 0,.int .i64 0,.int .i64 0,.int .i64 0] 109)) (.returned (⟨6,0,v,0⟩:ax).val) w1):=hd
 clear post1 post2 hd
 simp only[ax.val]
 go_wp2
 exact bodyPost_ret (results_cell_row rfl _ _ _ _ _ _ _ rfl (ab (ab (ab (ab hg1)))) Tryz.underlying109 rfl ap) rfl (nB (bD (ay _ _) _) (by simpa using hlt) (by simp) HD.out rfl)
theorem pw(w:World)(p:Nat)(m:QS)(nx:Value)(v:Int)(h:fg w p m nx)(hm:m.ok)(hc:m.call=3)(hf:m.most<=u64 v) :
  Calls Tryz.prog 223 #[.pointer (some ⟨p,0,none⟩),.int .i64 v] w (cg p {m with l:=v} ⟨6,0,0,2⟩ w):=by
 obtain⟨⟨c0,c1,c2,c3,c4,c5,c6⟩,⟨f3,f4,f5,f6⟩,hlt⟩:=iD h
 have HP:=kH h
 have HM:=kH hm
 obtain⟨hb0,hb1,hm0,hm1⟩:=hm
 have HP2:Hid (fg (w.setCell ⟨p,6,none⟩ (.int .i64 v)) p {m with l:=v} nx):=ab HP.out
 have HM2:Hid (QS.ok {m with l:=v}):=HM.out
 clear h
 rw[hc]at c2
 rw[<-kh]at hf
 clear hc
 go_enter Tryz.func223,Tryz.ntmps223
 go_wp2_with fail
 refine(gh _ p {m with l:=v} nx 0 2 (kO HP2.out)).mono ?_
 rintro e w1 ⟨rfl,post1,post2⟩
 have hg1:=aq post1 (aj (n:=w.heap.size) (by simp)) (by omega)
 obtain⟨⟨d0,d1,d2,d3⟩,⟨g0,g1,g2,g3⟩,hz⟩:=bB hg1
 have hd:cg p {m with l:=v} ⟨6,0,0,2⟩ ((w.setCell ⟨p,6,none⟩ (.int .i64 v)).alloc (.cells #[.int .i64 0,.int .i64 0,.int .i64 0,.int .i64 0] 109)) (.returned (⟨6,0,0,2⟩:ax).val) w1:=⟨rfl,post1,post2⟩
 have HD:Hid (cg p {m with l:=v} ⟨6,0,0,2⟩ ((w.setCell ⟨p,6,none⟩ (.int .i64 v)).alloc (.cells #[.int .i64 0,.int .i64 0,.int .i64 0,.int .i64 0] 109)) (.returned (⟨6,0,0,2⟩:ax).val) w1):=hd
 clear post1 post2 hd
 simp only[ax.val]
 go_wp2
 exact bodyPost_ret (results_cell_row rfl _ _ _ _ _ _ _ rfl (ab (ab (ab (ab hg1)))) Tryz.underlying109 rfl ap) rfl (nB (bD (ay _ _) _) (by simpa using hlt) (by simp) HD.out rfl)
theorem qc(w:World)(p:Nat)(m:QS)(nx:Value)(v:Int)(h:fg w p m nx)(hm:m.ok)(hc:m.call=3)(hf:u64 v<m.most)(h1:1<=m.most) :
  Calls Tryz.prog 223 #[.pointer (some ⟨p,0,none⟩),.int .i64 v] w (aA p {m with l:=v} (BU 236) (bN (m.base+(2+behindI m.f (u64 v) m.most)) m.v) w):=by
 obtain⟨⟨c0,c1,c2,c3,c4,c5,c6⟩,⟨f3,f4,f5,f6⟩,hlt⟩:=iD h
 have HP:=kH h
 have HM:=kH hm
 obtain⟨hb0,hb1,hm0,hm1⟩:=hm
 have HP2:Hid (fg (w.setCell ⟨p,6,none⟩ (.int .i64 v)) p {m with l:=v} nx):=ab HP.out
 have HM2:Hid (QS.ok {m with l:=v}):=HM.out
 clear h
 rw[hc]at c2
 have hub:=u64_bounds v
 have hbb:=behind_bounds m.f (u64 v) m.most h1
 rw[<-kh]at hf hub hbb
 rw[<-kh]
 have hne:w.heap.size≠p:=by omega
 have hcb:Hid (0<=2+behindI m.f (IntKind.u64.wrap v) m.most/\2+behindI m.f (IntKind.u64.wrap v) m.most<=100):=by constructor<;>omega
 have hwr:IntKind.i64.wrap (2+behindI m.f (IntKind.u64.wrap v) m.most)=2+behindI m.f (IntKind.u64.wrap v) m.most:=IntWalk.i64_in _ (by omega)
 clear hc hbb
 go_enter Tryz.func223,Tryz.ntmps223
 go_wp2_with fail
 go_region_with(first|(go_at_call 235;refine(jR _ _ _ _ h1 hm1 hub.1 hub.2).mono ?_;rintro e w' ⟨rfl,q,rfl⟩)|(go_at_call 234;refine(iH _ p {m with l:=v} nx _ _ 236 (ma (kO HP2.out)) HM2.out hcb.out).mono ?_;rintro e w1 ⟨rfl,post1⟩;have hg1:=aq post1.1 (il (n:=w.heap.size) (by simp)) hne;obtain⟨⟨d0,d1,d2,d3⟩,⟨g0,g1,g2,g3⟩,hz⟩:=bB hg1;simp only[ax.val]))
 all_goals
  go_wp2
  refine bodyPost_ret (results_cell_row rfl _ _ _ _ _ _ _ rfl (ab (ab (ab (ab hg1)))) Tryz.underlying109 rfl ap) rfl ?_
  exact pP (bD (ay _ _) _) (by simpa using hlt) (by simp) (fH (aF (ay _ _) _) post1.1) post1.2 rfl
theorem pr(w:World)(p:Nat)(m:QS)(nx:Value)(v:Int)(h:fg w p m nx)(hm:m.ok)(hc5:m.call≠5)(hc3:m.call≠3)(hz:v=0) :
  Calls Tryz.prog 223 #[.pointer (some ⟨p,0,none⟩),.int .i64 v] w (cg p {m with l:=v} ⟨6,0,0,1⟩ w):=by
 obtain⟨⟨c0,c1,c2,c3,c4,c5,c6⟩,⟨f3,f4,f5,f6⟩,hlt⟩:=iD h
 have HP:=kH h
 have HM:=kH hm
 obtain⟨hb0,hb1,hm0,hm1⟩:=hm
 have HP2:Hid (fg (w.setCell ⟨p,6,none⟩ (.int .i64 v)) p {m with l:=v} nx):=ab HP.out
 have HM2:Hid (QS.ok {m with l:=v}):=HM.out
 clear h
 have h5:(m.call == 5)=false:=by simpa using hc5
 have h3:(m.call == 3)=false:=by simpa using hc3
 subst hz
 clear hc5 hc3
 go_enter Tryz.func223,Tryz.ntmps223
 go_wp2_with fail
 refine(gh _ p {m with l:=0} nx 0 1 (kO HP2.out)).mono ?_
 rintro e w1 ⟨rfl,post1,post2⟩
 have hg1:=aq post1 (aj (n:=w.heap.size) (by simp)) (by omega)
 obtain⟨⟨d0,d1,d2,d3⟩,⟨g0,g1,g2,g3⟩,hz⟩:=bB hg1
 have hd:cg p {m with l:=0} ⟨6,0,0,1⟩ ((w.setCell ⟨p,6,none⟩ (.int .i64 0)).alloc (.cells #[.int .i64 0,.int .i64 0,.int .i64 0,.int .i64 0] 109)) (.returned (⟨6,0,0,1⟩:ax).val) w1:=⟨rfl,post1,post2⟩
 have HD:Hid (cg p {m with l:=0} ⟨6,0,0,1⟩ ((w.setCell ⟨p,6,none⟩ (.int .i64 0)).alloc (.cells #[.int .i64 0,.int .i64 0,.int .i64 0,.int .i64 0] 109)) (.returned (⟨6,0,0,1⟩:ax).val) w1):=hd
 clear post1 post2 hd
 simp only[ax.val]
 go_wp2
 exact bodyPost_ret (results_cell_row rfl _ _ _ _ _ _ _ rfl (ab (ab (ab (ab hg1)))) Tryz.underlying109 rfl ap) rfl (nB (bD (ay _ _) _) (by simpa using hlt) (by simp) HD.out rfl)
theorem pu(w:World)(p:Nat)(m:QS)(nx:Value)(v:Int)(h:fg w p m nx)(hm:m.ok)(hc5:m.call≠5)(hc3:m.call≠3)(hz:v≠0)(hn:m.most=0) :
  Calls Tryz.prog 223 #[.pointer (some ⟨p,0,none⟩),.int .i64 v] w (cg p {m with l:=v} ⟨6,0,0,1⟩ w):=by
 obtain⟨⟨c0,c1,c2,c3,c4,c5,c6⟩,⟨f3,f4,f5,f6⟩,hlt⟩:=iD h
 have HP:=kH h
 have HM:=kH hm
 obtain⟨hb0,hb1,hm0,hm1⟩:=hm
 have HP2:Hid (fg (w.setCell ⟨p,6,none⟩ (.int .i64 v)) p {m with l:=v} nx):=ab HP.out
 have HM2:Hid (QS.ok {m with l:=v}):=HM.out
 clear h
 have h5:(m.call == 5)=false:=by simpa using hc5
 have h3:(m.call == 3)=false:=by simpa using hc3
 have hz':(v == 0)=false:=by simpa using hz
 rw[hn]at c1
 clear hc5 hc3 hz hn
 go_enter Tryz.func223,Tryz.ntmps223
 go_wp2_with fail
 refine(gh _ p {m with l:=v} nx 0 1 (kO HP2.out)).mono ?_
 rintro e w1 ⟨rfl,post1,post2⟩
 have hg1:=aq post1 (aj (n:=w.heap.size) (by simp)) (by omega)
 obtain⟨⟨d0,d1,d2,d3⟩,⟨g0,g1,g2,g3⟩,hz⟩:=bB hg1
 have hd:cg p {m with l:=v} ⟨6,0,0,1⟩ ((w.setCell ⟨p,6,none⟩ (.int .i64 v)).alloc (.cells #[.int .i64 0,.int .i64 0,.int .i64 0,.int .i64 0] 109)) (.returned (⟨6,0,0,1⟩:ax).val) w1:=⟨rfl,post1,post2⟩
 have HD:Hid (cg p {m with l:=v} ⟨6,0,0,1⟩ ((w.setCell ⟨p,6,none⟩ (.int .i64 v)).alloc (.cells #[.int .i64 0,.int .i64 0,.int .i64 0,.int .i64 0] 109)) (.returned (⟨6,0,0,1⟩:ax).val) w1):=hd
 clear post1 post2 hd
 simp only[ax.val]
 go_wp2
 exact bodyPost_ret (results_cell_row rfl _ _ _ _ _ _ _ rfl (ab (ab (ab (ab hg1)))) Tryz.underlying109 rfl ap) rfl (nB (bD (ay _ _) _) (by simpa using hlt) (by simp) HD.out rfl)
theorem qe(w:World)(p:Nat)(m:QS)(nx:Value)(v:Int)(h:fg w p m nx)(hm:m.ok)(hc5:m.call≠5)(hc3:m.call≠3)(hz:v≠0)(h1:1<=m.most) :
  Calls Tryz.prog 223 #[.pointer (some ⟨p,0,none⟩),.int .i64 v] w (aA p {m with l:=v} (BU 237) (bV (m.base+(2+behindI m.f 0 m.most))) w):=by
 obtain⟨⟨c0,c1,c2,c3,c4,c5,c6⟩,⟨f3,f4,f5,f6⟩,hlt⟩:=iD h
 have HP:=kH h
 have HM:=kH hm
 obtain⟨hb0,hb1,hm0,hm1⟩:=hm
 have HP2:Hid (fg (w.setCell ⟨p,6,none⟩ (.int .i64 v)) p {m with l:=v} nx):=ab HP.out
 have HM2:Hid (QS.ok {m with l:=v}):=HM.out
 clear h
 have h5:(m.call == 5)=false:=by simpa using hc5
 have h3:(m.call == 3)=false:=by simpa using hc3
 have hz':(v == 0)=false:=by simpa using hz
 have hn':(m.most == 0)=false:=by simp;omega
 have hbb:=behind_bounds m.f 0 m.most h1
 have hne:w.heap.size≠p:=by omega
 have hcb:Hid (0<=2+behindI m.f 0 m.most/\2+behindI m.f 0 m.most<=100):=by constructor<;>omega
 have hwr:IntKind.i64.wrap (2+behindI m.f 0 m.most)=2+behindI m.f 0 m.most:=IntWalk.i64_in _ (by omega)
 clear hc5 hc3 hz hbb
 go_enter Tryz.func223,Tryz.ntmps223
 go_wp2_with fail
 go_region_with(first|(go_at_call 235;refine(jR _ _ _ _ h1 hm1 (Int.le_refl 0) (by decide)).mono ?_;rintro e w' ⟨rfl,q,rfl⟩)|(go_at_call 181;refine(lZ _ p {m with l:=v} nx _ 237 (ma (kO HP2.out)) HM2.out hcb.out).mono ?_;rintro e w1 ⟨rfl,post1⟩;have hg1:=aq post1.1 (il (n:=w.heap.size) (by simp)) hne;obtain⟨⟨d0,d1,d2,d3⟩,⟨g0,g1,g2,g3⟩,hz⟩:=bB hg1;simp only[ax.val]))
 all_goals
  go_wp2
  refine bodyPost_ret (results_cell_row rfl _ _ _ _ _ _ _ rfl (ab (ab (ab (ab hg1)))) Tryz.underlying109 rfl ap) rfl ?_
  exact pP (bD (ay _ _) _) (by simpa using hlt) (by simp) (fH (aF (ay _ _) _) post1.1) post1.2 rfl
end Que
namespace Chn
open Go.RowKit
structure WayD where
 cell:Int
 p:Int
 stopped:Bool
 key:Int
 at_:Bool
def WayD.cells(d:WayD):Array Value:=#[.int .i64 d.cell,.int .i64 d.p,.bool d.stopped,.int .i64 d.key,.bool d.at_]
inductive T
 | lays1 (k:Int) (d:WayD) (f:Int)
 | lays2 (k:Int) (d:WayD) (u:Int)
 | key (k:Int) (d:WayD) (node:Int)
 | link (k:Int) (d:WayD) (node:Int)
 | fin
 | delW (d:WayD)
 | delL (d:WayD)
 | delFin
inductive K
 | least
 | len
 | start (call k:Int)
 | keyOf
 | keyOf1
 | counts (n:Int)
 | goes (call k cell n:Int)
 | goes1 (call k cell n p:Int)
 | addF (k:Int) (d:WayD)
 | addQ (k:Int) (d:WayD) (f:Int)
 | addU (k:Int) (d:WayD)
 | delQ (d:WayD)
 | delF (d:WayD)
 | put (t:T)
 | done (x:ax)
def keyI(n:Int):Int:=1+2*n
def linkI(n:Int):Int:=2+2*n
def endK(v c:Int):ax×K:=(⟨6,0,v,c⟩,.done ⟨6,0,v,c⟩)
def addsK(base k:Int)(d:WayD):ax×K:=if d.at_=true then endK 0 3 else(bV (base+1),.addF k d)
def delsK(base:Int)(d:WayD):ax×K:=if d.at_=true then(bV (base+linkI d.p),.delQ d)else endK 0 1
def aboveK(base:Int)(d:WayD):ax×K:=if d.at_=true then(bV (base+linkI d.p),.keyOf)else if d.stopped=true then endK d.key 0 else endK 0 1
def hasK(d:WayD):ax×K:=if d.at_=true then endK 1 0 else endK 0 0
def thenK(base call k:Int)(d:WayD):ax×K :=
 if call=1 then addsK base k d else if call=4 then delsK base d else if call=6 then hasK d else aboveK base d
def gE(base k:Int)(d:WayD)(node:Int):ax×K:=(bN (base+keyI node) k,.put (.key k d node))
def putK(base:Int):T->ax×K
 | .lays1 k d f=>gE base k d f
 | .lays2 k d u=>gE base k d (u+1)
 | .key k d node=>(bN (base+linkI node) d.p,.put (.link k d node))
 | .link _ d node=>(bN (base+d.cell) node,.put .fin)
 | .fin=>endK 0 0
 | .delW d=>(bV (base+1),.delF d)
 | .delL d=>(bN (base+1) d.p,.put .delFin)
 | .delFin=>endK 0 0
def bg(most p:Int):Prop:=1<=p/\p<=most
instance (most p:Int):Decidable (bg most p):=by unfold bg;infer_instance
def goK(base most:Int):K->Int->ax×K
 | .least,_=>(bV (base+0),.keyOf)
 | .len,_=>(bV (base+0),.counts 0)
 | .start call k,_=>(bV (base+0),.goes call k 0 0)
 | .keyOf,p=>if bg most p then(bV (base+keyI p),.keyOf1)else endK 0 1
 | .keyOf1,v=>endK v 0
 | .counts n,p=>if bg most p/\n≠most then(bV (base+linkI p),.counts (n+1))else endK n 0
 | .goes call k cell n,p=>if bg most p/\n≠most then(bV (base+keyI p),.goes1 call k cell n p)else thenK base call k ⟨cell,p,false,0,false⟩
 | .goes1 call k cell n p,v=>if k<=v then thenK base call k ⟨cell,p,true,v,decide (v=k)⟩else(bV (base+linkI p),.goes call k (linkI p) (n+1))
 | .addF k d,f=>if bg most f then(bV (base+linkI f),.addQ k d f)else(bV (base+2),.addU k d)
 | .addQ k d f,q=>(bN (base+1) q,.put (.lays1 k d f))
 | .addU k d,u=>if u<0\/most<=u then endK 0 2 else(bN (base+2) (u+1),.put (.lays2 k d u))
 | .delQ d,q=>(bN (base+d.cell) q,.put (.delW d))
 | .delF d,f=>(bN (base+linkI d.p) f,.put (.delL d))
 | .put t,_=>putK base t
 | .done x,_=>(x,.done x)
def eB(c:Int):Prop:=0<=c/\c<=40
def OkD(most:Int)(d:WayD):Prop:=eB d.cell/\(d.at_=true->bg most d.p)
def OkT(most:Int):T->Prop
 | .lays1 _ d f=>OkD most d/\bg most f
 | .lays2 _ d u=>OkD most d/\0<=u/\u<most
 | .key _ d node=>OkD most d/\bg most node
 | .link _ d node=>OkD most d/\bg most node
 | .fin=>True
 | .delW d=>OkD most d/\bg most d.p
 | .delL d=>OkD most d/\bg most d.p
 | .delFin=>True
def OkK(most:Int):K->Prop
 | .counts n=>0<=n/\n<=most
 | .goes _ _ cell n=>eB cell/\0<=n/\n<=most
 | .goes1 _ _ cell n p=>eB cell/\0<=n/\n<most/\bg most p
 | .addF _ d=>OkD most d
 | .addQ _ d f=>OkD most d/\bg most f
 | .addU _ d=>OkD most d
 | .delQ d=>OkD most d/\bg most d.p
 | .delF d=>OkD most d/\bg most d.p
 | .put t=>OkT most t
 | _=>True
structure dP where
 b:Nat
 cs:Array Value
 t:TypeId
def bv(w:World)(p:Nat)(B:List dP):Prop:=∀ e∈B,e.b≠p/\w.heap[e.b]?=some (.cells e.cs e.t (0,0))
def ci(w:World)(p:Nat)(base most:Int)(nx:Value):Prop:=w.heap[p]?=some (.cells #[.int .i64 base,.int .i64 most,nx] 238 (0,0))
def ptr(b:Nat):Value:=.pointer (some ⟨b,0,none⟩)
def XB(B:List dP)(p b:Nat):Prop:=⟨b,#[.pointer (some ⟨p,0,none⟩)],191⟩∈B
def IB(B:List dP)(v:Int)(b:Nat):Prop:=⟨b,#[.int .i64 v],3⟩∈B
def VB(B:List dP)(v:Int)(b:Nat):Prop:=⟨b,#[.int .i64 v],2⟩∈B
def WB(B:List dP)(d:WayD)(b:Nat):Prop:=⟨b,d.cells,243⟩∈B
def sX(B:List dP)(p:Nat)(call k:Int)(v:Value):Prop :=
 ∃ bc bx bk,IB B call bc/\XB B p bx/\VB B k bk/\v=.func (.func 163) #[] #[ptr bc,ptr bx,ptr bk]
def LaysV(B:List dP)(p:Nat)(k:Int)(d:WayD)(v:Value):Prop :=
 ∃ bx bk bw,XB B p bx/\VB B k bk/\WB B d bw/\v=.func (.func 194) #[] #[ptr bx,ptr bk,ptr bw]
def iT(B:List dP)(p:Nat)(k:Int)(d:WayD)(b:Nat):Prop:=∃ lv,LaysV B p k d lv/\⟨b,#[lv],131⟩∈B
def TV(B:List dP)(p:Nat):T->Value->Prop
 | .lays1 k d f,v=>∃ bl bf,iT B p k d bl/\VB B f bf/\v=.func (.func 201) #[] #[ptr bl,ptr bf]
 | .lays2 k d u,v=>∃ bl bu,iT B p k d bl/\VB B u bu/\v=.func (.func 203) #[] #[ptr bl,ptr bu]
 | .key _ d node,v=>∃ bx bn bw,XB B p bx/\VB B node bn/\WB B d bw/\v=.func (.func 196) #[] #[ptr bx,ptr bn,ptr bw]
 | .link _ d node,v=>∃ bx bw bn,XB B p bx/\WB B d bw/\VB B node bn/\v=.func (.func 197) #[] #[ptr bx,ptr bw,ptr bn]
 | .fin,v=>∃ bx,XB B p bx/\v=.func (.func 198) #[] #[ptr bx]
 | .delW d,v=>∃ bx bw,XB B p bx/\WB B d bw/\v=.func (.func 205) #[] #[ptr bx,ptr bw]
 | .delL d,v=>∃ bx bw,XB B p bx/\WB B d bw/\v=.func (.func 207) #[] #[ptr bx,ptr bw]
 | .delFin,v=>∃ bx,XB B p bx/\v=.func (.func 208) #[] #[ptr bx]
def FV(B:List dP)(p:Nat):K->Value->Prop
 | .least,v=>∃ bx,XB B p bx/\v=.func (.func 156) #[] #[ptr bx]
 | .len,v=>∃ bx,XB B p bx/\v=.func (.func 159) #[] #[ptr bx]
 | .start call k,v=>∃ bx bk bc,XB B p bx/\VB B k bk/\IB B call bc/\v=.func (.func 161) #[] #[ptr bx,ptr bk,ptr bc]
 | .keyOf,v=>v=.func (.func 158) #[ptr p] #[]
 | .keyOf1,v=>∃ bx,XB B p bx/\v=.func (.func 189) #[] #[ptr bx]
 | .counts n,v=>∃ bx bn,XB B p bx/\VB B n bn/\v=.func (.func 190) #[] #[ptr bx,ptr bn]
 | .goes call k cell n,v=>∃ bx bn bt bc bk tv,XB B p bx/\VB B n bn/\sX B p call k tv/\⟨bt,#[tv],245⟩∈B/\IB B cell bc/\VB B k bk /\
   v=.func (.func 192) #[] #[ptr bx,ptr bn,ptr bt,ptr bc,ptr bk]
 | .goes1 call k cell n q,v=>∃ bk bt bc bp bx bn tv,VB B k bk/\sX B p call k tv/\⟨bt,#[tv],245⟩∈B/\IB B cell bc/\VB B q bp/\XB B p bx/\VB B n bn /\
   v=.func (.func 193) #[] #[ptr bk,ptr bt,ptr bc,ptr bp,ptr bx,ptr bn]
 | .addF k d,v=>∃ bx bl,XB B p bx/\iT B p k d bl/\v=.func (.func 199) #[] #[ptr bx,ptr bl]
 | .addQ k d f,v=>∃ bx bl bf,XB B p bx/\iT B p k d bl/\VB B f bf/\v=.func (.func 200) #[] #[ptr bx,ptr bl,ptr bf]
 | .addU k d,v=>∃ bx bl,XB B p bx/\iT B p k d bl/\v=.func (.func 202) #[] #[ptr bx,ptr bl]
 | .delQ d,v=>∃ bx bw,XB B p bx/\WB B d bw/\v=.func (.func 204) #[] #[ptr bx,ptr bw]
 | .delF d,v=>∃ bx bw,XB B p bx/\WB B d bw/\v=.func (.func 206) #[] #[ptr bx,ptr bw]
 | .put t,v=>∃ bt tv,TV B p t tv/\⟨bt,#[tv],266⟩∈B/\v=.func (.func 228) #[] #[ptr bt]
 | .done x,v=>∃ bw,⟨bw,#[.int .i64 x.kind,.int .i64 x.cell,.int .i64 x.value,.int .i64 x.code],109⟩∈B/\v=.func (.func 209) #[] #[ptr bw]
def aA(p:Nat)(base most:Int)(B:List dP)(r:ax×K)(w:World)(e:Ending)(w':World):Prop :=
 e=.returned r.1.val/\w.grownBy w' (some p)/\∃ nx N,ci w' p base most nx/\(∀ x∈N,w.heap.size<=x.b/\w'.heap[x.b]?=some (.cells x.cs x.t (0,0)))/\FV (N++B) p r.2 nx
theorem fH{a b c:World}{r:Option Nat}(h:a.grownBy b r)(k:b.grownBy c r):a.grownBy c r :=
 ⟨k.os.trans h.os,k.tape.trans h.tape,k.output.trans h.output,Nat.le_trans h.size k.size,fun q hq hne=>(k.block q (Nat.lt_of_lt_of_le hq h.size) hne).trans (h.block q hq hne)⟩
theorem dN{w w0 w1:World}{p g:Nat}{base most:Int}{B M:List dP}{r:ax×K}{a b c d:Value}(h0:w.grownBy w0 (some p))(hp:p<w.heap.size)(hg:w.heap.size<=g)(hg0:g<w0.heap.size)
  (hM:∀ x∈M,w.heap.size<=x.b/\x.b≠g/\w0.heap[x.b]?=some (.cells x.cs x.t (0,0))) {v1:Value} (h1:aA p base most (M++B) r w0 (.returned v1) w1) {e:Ending} (he:e=.returned r.1.val) :
  aA p base most B r w e ((((w1.setCell ⟨g,0,none⟩ a).setCell ⟨g,1,none⟩ b).setCell ⟨g,2,none⟩ c).setCell ⟨g,3,none⟩ d):=by
 obtain⟨-,hgr,nx,N,hL,hN,hF⟩:=h1
 have hz0:=h0.size
 have hz1:=hgr.size
 have hset:∀ q,q≠g->∀ o,w1.heap[q]?=some o->((((w1.setCell ⟨g,0,none⟩ a).setCell ⟨g,1,none⟩ b).setCell ⟨g,2,none⟩ c).setCell ⟨g,3,none⟩ d).heap[q]?=some o:=fun q hq o ho =>
  al (al (al (al ho hq) hq) hq) hq
 refine⟨he,⟨hgr.os.trans h0.os,hgr.tape.trans h0.tape,hgr.output.trans h0.output,by simp;omega,fun k hk hne=>?_⟩,nx,N++M,hset p (by omega) _ hL,?_,by rw[List.append_assoc];exact hF⟩
 ·have e:k≠g:=by omega
  rw[Below.heap_setCell _ _ _ _ (by simpa using e),Below.heap_setCell _ _ _ _ (by simpa using e),Below.heap_setCell _ _ _ _ (by simpa using e),Below.heap_setCell _ _ _ _ (by simpa using e),hgr.block k (by omega) hne]
  exact h0.block k hk hne
 ·intro x hx
  rcases List.mem_append.1 hx with h|h
  ·obtain⟨h1,h2⟩:=hN x h
   exact⟨by omega,hset _ (by omega) _ h2⟩
  ·obtain⟨h1,h2,h3⟩:=hM x h
   exact⟨h1,hset _ h2 _ ((hgr.block x.b (Array.getElem?_eq_some_iff.1 h3).1 (fun e=>by injection e with e;omega)).trans h3)⟩
theorem aC{w w0 w1:World}{p:Nat}{base most:Int}{B:List dP}{r:ax×K}{a b c d v1:Value}{e:Ending}(g:Nat)(hp:p<w.heap.size)(h1:aA p base most B r w0 (.returned v1) w1)
  (h0:w.grownBy w0 (some p):=by repeat(first|exact ay _ _|refine az ?_ _|refine aF ?_ _|refine aJ ?_)) (hg:w.heap.size<=g:=by omega) (hg0:g<w0.heap.size:=by simp) (he:e=.returned r.1.val:=by rfl) :
  aA p base most B r w e ((((w1.setCell ⟨g,0,none⟩ a).setCell ⟨g,1,none⟩ b).setCell ⟨g,2,none⟩ c).setCell ⟨g,3,none⟩ d) :=
 dN (M:=[]) h0 hp hg hg0 (fun x hx=>nomatch hx) h1 he
theorem bv.app{w:World}{p:Nat}{M B:List dP}(h1:bv w p M)(h2:bv w p B):bv w p (M++B):=fun e he=>(List.mem_append.1 he).elim (h1 e) (h2 e)
theorem bv.keep{w w':World}{p:Nat}{B:List dP}(h:bv w p B)(hg:w.grownBy w' (some p)):bv w' p B:=fun e he=>by
 obtain⟨h1,h2⟩:=h e he
 exact⟨h1,(hg.block e.b (Array.getElem?_eq_some_iff.1 h2).1 (fun e=>by injection e with e;omega)).trans h2⟩
theorem sX.mono{B B':List dP}(hs:∀ e∈B,e∈B'){p:Nat}{call k:Int}{v:Value}(h:sX B p call k v):sX B' p call k v:=by
 obtain⟨a,b,c,h1,h2,h3,h4⟩:=h
 exact⟨a,b,c,hs _ h1,hs _ h2,hs _ h3,h4⟩
theorem iT.mono{B B':List dP}(hs:∀ e∈B,e∈B'){p:Nat}{k:Int}{d:WayD}{b:Nat}(h:iT B p k d b):iT B' p k d b:=by
 obtain⟨lv,⟨x,y,z,h1,h2,h3,h4⟩,h5⟩:=h
 exact⟨lv,⟨x,y,z,hs _ h1,hs _ h2,hs _ h3,h4⟩,hs _ h5⟩
theorem TV.mono{B B':List dP}(hs:∀ e∈B,e∈B'){p:Nat}{t:T}{v:Value}(h:TV B p t v):TV B' p t v:=by
 cases t with
 | lays1=>obtain⟨a,b,h1,h2,h3⟩:=h;exact⟨a,b,h1.mono hs,hs _ h2,h3⟩
 | lays2=>obtain⟨a,b,h1,h2,h3⟩:=h;exact⟨a,b,h1.mono hs,hs _ h2,h3⟩
 | key=>obtain⟨a,b,c,h1,h2,h3,h4⟩:=h;exact⟨a,b,c,hs _ h1,hs _ h2,hs _ h3,h4⟩
 | link=>obtain⟨a,b,c,h1,h2,h3,h4⟩:=h;exact⟨a,b,c,hs _ h1,hs _ h2,hs _ h3,h4⟩
 | fin=>obtain⟨a,h1,h2⟩:=h;exact⟨a,hs _ h1,h2⟩
 | delW=>obtain⟨a,b,h1,h2,h3⟩:=h;exact⟨a,b,hs _ h1,hs _ h2,h3⟩
 | delL=>obtain⟨a,b,h1,h2,h3⟩:=h;exact⟨a,b,hs _ h1,hs _ h2,h3⟩
 | delFin=>obtain⟨a,h1,h2⟩:=h;exact⟨a,hs _ h1,h2⟩
end Chn
namespace Chn
open Go.RowKit
theorem bC{w:World}{p:Nat}{base most:Int}{nx:Value}(h:ci w p base most nx) :
  (w.cell? ⟨p,0,none⟩=some (.int .i64 base)/\w.cell? ⟨p,1,none⟩=some (.int .i64 most)/\w.cell? ⟨p,2,none⟩=some nx)/\w.frozen? ⟨p,2,none⟩=false/\p<w.heap.size:=by
 unfold ci at h
 have hc:=fun j=>cell_of_row w p j _ _ _ h
 refine⟨⟨?_,?_,?_⟩,frozen_of_row w p 2 _ _ h,(Array.getElem?_eq_some_iff.1 h).1⟩
 ·simpa using hc 0
 ·simpa using hc 1
 ·simpa using hc 2
theorem o0(w:World)(p:Nat)(base most:Int)(nx:Value)(v:Int)(h:ci w p base most nx) :
  Calls Tryz.prog 187 #[.pointer (some ⟨p,0,none⟩),.int .i64 v] w (dm (.bool (decide (bg most v))) w):=by
 obtain⟨⟨c0,c1,c2⟩,-,hlt⟩:=bC h
 clear h
 rcases(show v<1\/(1<=v/\v<=most)\/(1<=v/\most<v)from by omega)with h|⟨h,h1⟩|⟨h,h1⟩
 ·have e:decide (bg most v)=false:=decide_eq_false (fun h=>by have:=h.1;omega)
  rw[e]
  clear e
  go_enter Tryz.func187,Tryz.ntmps187
  go_wp2
  go_ret
  exact⟨by first|rfl|simp_all,rfl⟩
 ·have e:decide (bg most v)=true:=decide_eq_true ⟨h,h1⟩
  rw[e]
  clear e
  go_enter Tryz.func187,Tryz.ntmps187
  go_wp2
  go_ret
  exact⟨by first|rfl|simp_all,rfl⟩
 ·have e:decide (bg most v)=false:=decide_eq_false (fun h=>by have:=h.2;omega)
  rw[e]
  clear e
  go_enter Tryz.func187,Tryz.ntmps187
  go_wp2
  go_ret
  exact⟨by first|rfl|simp_all,rfl⟩
theorem ll{w:World}{p:Nat}{base most:Int}{nx:Value}{v:Int}(h:ci w p base most nx)(hl:bg most v) :
  Calls Tryz.prog 187 #[.pointer (some ⟨p,0,none⟩),.int .i64 v] w (dm (.bool true) w):=by
 have:=o0 w p base most nx v h
 rwa [decide_eq_true hl]at this
theorem pI{w:World}{p:Nat}{base most:Int}{nx:Value}{v:Int}(h:ci w p base most nx)(hl:¬bg most v) :
  Calls Tryz.prog 187 #[.pointer (some ⟨p,0,none⟩),.int .i64 v] w (dm (.bool false) w):=by
 have:=o0 w p base most nx v h
 rwa [decide_eq_false hl]at this
theorem lk{w W:World}{p:Nat}{base most:Int}{nx:Value}(h:ci w p base most nx)(hW:W.heap=w.heap):ci W p base most nx:=by
 unfold ci;rw[hW];exact h
theorem oB(w:World)(n:Int)(h:0<=n)(h1:n<=100):Calls Tryz.prog 188 #[.int .i64 n] w (dm (.int .i64 (keyI n)) w):=by
 have e:wrap64 (1+wrap64 (2*n))=keyI n:=by unfold wrap64 keyI;omega
 have HE:=kH e
 clear e
 go_enter Tryz.func188,Tryz.ntmps188
 go_wp2
 go_ret
 exact⟨by first|rfl|rw[<-HE.out];rfl,rfl⟩
theorem fy(w:World)(n:Int)(h:0<=n)(h1:n<=100):Calls Tryz.prog 191 #[.int .i64 n] w (dm (.int .i64 (linkI n)) w):=by
 have e:wrap64 (2+wrap64 (2*n))=linkI n:=by unfold wrap64 linkI;omega
 have HE:=kH e
 clear e
 go_enter Tryz.func191,Tryz.ntmps191
 go_wp2
 go_ret
 exact⟨by first|rfl|rw[<-HE.out];rfl,rfl⟩
theorem keyR{most v:Int}(hl:bg most v)(hm:most<=16):0<=keyI v/\keyI v<=100:=by unfold bg at hl;unfold keyI;omega
theorem vD{most v:Int}(hl:bg most v)(hm:most<=16):0<=linkI v/\linkI v<=100:=by unfold bg at hl;unfold linkI;omega
theorem CO{most v:Int}(hl:bg most v)(hm:most<=16):eB (linkI v):=by unfold bg at hl;unfold linkI eB;omega
theorem zO{c:Int}(hc:eB c):0<=c/\c<=100:=by unfold eB at hc;omega
theorem lQ{most v:Int}(hl:bg most v):0<=v:=by unfold bg at hl;omega
theorem lP{most v:Int}(hl:bg most v)(hm:most<=16):v<=100:=by unfold bg at hl;omega
def inB(base most:Int):Prop:=0<=base/\base<=1024/\0<=most/\most<=16
theorem dS(w:World)(p:Nat)(base most:Int)(nx:Value)(B:List dP)(k:K)(cell:Int)(n:Nat)(bd cs:Array Value)(h:ci w p base most nx)(hb:inB base most)(hc:0<=cell/\cell<=100)(hF:FV B p k (.func (.func n) bd cs)) :
  Calls Tryz.prog 157 #[.pointer (some ⟨p,0,none⟩),.int .i64 cell,.func (.func n) bd cs] w (aA p base most B (bV (base+cell),k) w):=by
 obtain⟨⟨c0,c1,c2⟩,f2,hlt⟩:=bC h
 have HP:=kH h
 have HF:=kH hF
 obtain⟨hb0,hb1,hm0,hm1⟩:=hb
 obtain⟨hc0,hc1⟩:=hc
 clear h hF
 go_enter Tryz.func157,Tryz.ntmps157
 go_wp2
 refine bodyPost_ret (results_cell_row rfl _ _ _ _ _ _ _ rfl (aj (by simp)) Tryz.underlying109 rfl ap) rfl ⟨rfl,az (bD (ay _ _) _) _,_,[],kO (ab HP.out),(fun x hx=>nomatch hx),HF.out⟩
theorem eL(w:World)(p:Nat)(base most:Int)(nx:Value)(B:List dP)(t:T)(cell x:Int)(n:Nat)(bd cs:Array Value)(h:ci w p base most nx)(hb:inB base most)(hc:0<=cell/\cell<=100)(hF:TV B p t (.func (.func n) bd cs)) :
  Calls Tryz.prog 195 #[.pointer (some ⟨p,0,none⟩),.int .i64 cell,.int .i64 x,.func (.func n) bd cs] w (aA p base most B (bN (base+cell) x,.put t) w):=by
 obtain⟨⟨c0,c1,c2⟩,f2,hlt⟩:=bC h
 have HP:=kH h
 have HF:=kH hF
 obtain⟨hb0,hb1,hm0,hm1⟩:=hb
 obtain⟨hc0,hc1⟩:=hc
 clear h hF
 go_enter Tryz.func195,Tryz.ntmps195
 go_wp2
 refine bodyPost_ret (results_cell_row rfl _ _ _ _ _ _ _ rfl (aj (by simp)) Tryz.underlying109 rfl ap) rfl
  ⟨rfl,az (az (bD (ay _ _) _) _) _,_,[⟨w.heap.size,#[.func (.func n) bd cs],266⟩],kO (kO (ab HP.out)),?_,w.heap.size,_,HF.out.mono (fun e he=>List.mem_cons_of_mem _ he),List.mem_cons_self,rfl⟩
 intro x hx
 obtain rfl:=List.mem_singleton.1 hx
 exact⟨Nat.le_refl _,kO (aj (by simp))⟩
theorem di(w:World)(p:Nat)(base most:Int)(nx:Value)(B:List dP)(v code:Int)(h:ci w p base most nx) :
  Calls Tryz.prog 166 #[.pointer (some ⟨p,0,none⟩),.int .i64 v,.int .i64 code] w (aA p base most B (endK v code) w):=by
 obtain⟨⟨c0,c1,c2⟩,f2,hlt⟩:=bC h
 have HP:=kH h
 clear h
 go_enter Tryz.func166,Tryz.ntmps166
 go_wp2
 refine bodyPost_ret (results_cell_row rfl _ _ _ _ _ _ _ rfl (kO (aj (by simp))) Tryz.underlying109 rfl ap) rfl
  ⟨rfl,az (az (bD (ay _ _) _) _) _,_,[⟨w.heap.size+1,#[.int .i64 6,.int .i64 0,.int .i64 v,.int .i64 code],109⟩],kO (kO (ab HP.out)),?_,w.heap.size+1,List.mem_cons_self,rfl⟩
 intro x hx
 obtain rfl:=List.mem_singleton.1 hx
 exact⟨by show w.heap.size<=w.heap.size+1;omega,aj (by simp)⟩
end Chn
namespace Chn
open Go.RowKit
theorem aO{w:World}{p:Nat}{B:List dP}{b:Nat}{a:Value}{t:TypeId}(hs:bv w p B)(h:⟨b,#[a],t⟩∈B):w.cell? ⟨b,0,none⟩=some a/\b<w.heap.size/\b≠p:=by
 obtain⟨h1,h2⟩:=hs _ h
 have hc:=cell_of_row w b 0 _ _ _ h2
 exact⟨by simpa using hc,(Array.getElem?_eq_some_iff.1 h2).1,h1⟩
theorem iU{w:World}{p:Nat}{B:List dP}{b:Nat}{d:WayD}(hs:bv w p B)(h:WB B d b) :
  (w.cell? ⟨b,0,none⟩=some (.int .i64 d.cell)/\w.cell? ⟨b,1,none⟩=some (.int .i64 d.p)/\w.cell? ⟨b,2,none⟩=some (.bool d.stopped)/\w.cell? ⟨b,3,none⟩=some (.int .i64 d.key)/\w.cell? ⟨b,4,none⟩=some (.bool d.at_))/\b<w.heap.size/\b≠p:=by
 obtain⟨h1,h2⟩:=hs _ h
 have hc:=fun j=>cell_of_row w b j _ _ _ h2
 refine⟨⟨?_,?_,?_,?_,?_⟩,(Array.getElem?_eq_some_iff.1 h2).1,h1⟩
 ·exact(hc 0).trans rfl
 ·exact(hc 1).trans rfl
 ·exact(hc 2).trans rfl
 ·exact(hc 3).trans rfl
 ·exact(hc 4).trans rfl
theorem gV{f:FuncId}{args:Array Value}{w:World}{v:Value}(h:∀ W,W.heap=w.heap->Calls Tryz.prog f args W (dm v W))(n:Nat) :
  Calls Tryz.prog f args (w.drewN n) fun e w''=>e=.returned v/\∃ m,w''=w.drewN m:=(h (w.drewN n) rfl).mono fun _ _ ⟨h1,h2⟩=>⟨h1,n,h2.symm⟩
end Chn
namespace Chn
open Go.RowKit
theorem pe(w:World)(p:Nat)(base most:Int)(nx:Value)(B:List dP)(cell n:Int)(h:ci w p base most nx)(hb:inB base most)(hc:eB cell)(hn:0<=n/\n<=most) :
  Calls Tryz.prog 160 #[.pointer (some ⟨p,0,none⟩),.int .i64 cell,.int .i64 n] w (aA p base most B (bV (base+cell),.counts n) w):=by
 obtain⟨⟨c0,c1,c2⟩,f2,hlt⟩:=bC h
 have HP:=kH h
 have HB:=kH hb
 obtain⟨hb0,hb1,hm0,hm1⟩:=hb
 clear h
 obtain⟨hn0,hn1⟩:=hn
 go_enter Tryz.func160,Tryz.ntmps160
 go_wp2_with fail
 refine(dS _ p base most nx ([⟨w.heap.size,#[.pointer (some ⟨p,0,none⟩)],191⟩,⟨w.heap.size+1,#[.int .i64 n],2⟩]++B) (.counts n) (cell) 190 (#[]) (#[.pointer (some ⟨w.heap.size,0,none⟩),.pointer (some ⟨w.heap.size+1,0,none⟩)]) (by repeat first|exact HP.out|refine kO ?_) HB.out (zO hc) ⟨_,_,(List.mem_append_left _ List.mem_cons_self),(List.mem_append_left _ (List.mem_cons_of_mem _ List.mem_cons_self)),rfl⟩).mono ?_
 rintro e w1 ⟨rfl,post⟩
 have hg1:=aq post.1 (aj (n:=w.heap.size+2) (by simp)) (by omega)
 obtain⟨⟨d0,d1,d2,d3⟩,⟨g0,g1,g2,g3⟩,hz⟩:=bB hg1
 simp only[ax.val]
 go_wp2
 exact bodyPost_ret (results_cell_row rfl _ _ _ _ _ _ _ rfl (ab (ab (ab (ab hg1)))) Tryz.underlying109 rfl ap) rfl (dN (g:=w.heap.size+2) (M:=[⟨w.heap.size,#[.pointer (some ⟨p,0,none⟩)],191⟩,⟨w.heap.size+1,#[.int .i64 n],2⟩]) (by repeat(first|exact ay _ _|refine az ?_ _|refine aF ?_ _|refine aJ ?_)) hlt (by omega) (by simp) (by intro x hx;simp only[List.mem_cons,List.not_mem_nil,or_false]at hx;rcases hx with rfl|rfl<;>first|exact⟨by simp,by simp,aj (by simp)⟩|exact⟨by simp,by simp,kO (aj (by simp))⟩|exact⟨by simp,by simp,kO (kO (aj (by simp)))⟩) ⟨rfl,post⟩ rfl)
theorem sH(w:World)(p:Nat)(base most:Int)(nx:Value)(B:List dP)(call k cell n:Int)(tn:Nat)(tb tc:Array Value)(h:ci w p base most nx)(hb:inB base most)(hc:eB cell)(hn:0<=n/\n<=most)(ht:sX B p call k (.func (.func tn) tb tc)) :
  Calls Tryz.prog 162 #[.pointer (some ⟨p,0,none⟩),.int .i64 k,.int .i64 cell,.int .i64 n,.func (.func tn) tb tc] w (aA p base most B (bV (base+cell),.goes call k cell n) w):=by
 obtain⟨⟨c0,c1,c2⟩,f2,hlt⟩:=bC h
 have HP:=kH h
 have HB:=kH hb
 obtain⟨hb0,hb1,hm0,hm1⟩:=hb
 clear h
 obtain⟨hn0,hn1⟩:=hn
 have HT:=kH ht
 clear ht
 go_enter Tryz.func162,Tryz.ntmps162
 go_wp2_with fail
 refine(dS _ p base most nx ([⟨w.heap.size,#[.pointer (some ⟨p,0,none⟩)],191⟩,⟨w.heap.size+1,#[.int .i64 k],2⟩,⟨w.heap.size+2,#[.int .i64 cell],3⟩,⟨w.heap.size+3,#[.int .i64 n],2⟩,⟨w.heap.size+4,#[.func (.func tn) tb tc],245⟩]++B) (.goes call k cell n) (cell) 192 (#[]) (#[.pointer (some ⟨w.heap.size,0,none⟩),.pointer (some ⟨w.heap.size+3,0,none⟩),.pointer (some ⟨w.heap.size+4,0,none⟩),.pointer (some ⟨w.heap.size+2,0,none⟩),.pointer (some ⟨w.heap.size+1,0,none⟩)]) (by repeat first|exact HP.out|refine kO ?_) HB.out (zO hc) ⟨_,_,_,_,_,_,(List.mem_append_left _ List.mem_cons_self),(List.mem_append_left _ (List.mem_cons_of_mem _ (List.mem_cons_of_mem _ (List.mem_cons_of_mem _ List.mem_cons_self)))),HT.out.mono (fun e he=>List.mem_append_right _ he),(List.mem_append_left _ (List.mem_cons_of_mem _ (List.mem_cons_of_mem _ (List.mem_cons_of_mem _ (List.mem_cons_of_mem _ List.mem_cons_self))))),(List.mem_append_left _ (List.mem_cons_of_mem _ (List.mem_cons_of_mem _ List.mem_cons_self))),(List.mem_append_left _ (List.mem_cons_of_mem _ List.mem_cons_self)),rfl⟩).mono ?_
 rintro e w1 ⟨rfl,post⟩
 have hg1:=aq post.1 (aj (n:=w.heap.size+5) (by simp)) (by omega)
 obtain⟨⟨d0,d1,d2,d3⟩,⟨g0,g1,g2,g3⟩,hz⟩:=bB hg1
 simp only[ax.val]
 go_wp2
 exact bodyPost_ret (results_cell_row rfl _ _ _ _ _ _ _ rfl (ab (ab (ab (ab hg1)))) Tryz.underlying109 rfl ap) rfl (dN (g:=w.heap.size+5) (M:=[⟨w.heap.size,#[.pointer (some ⟨p,0,none⟩)],191⟩,⟨w.heap.size+1,#[.int .i64 k],2⟩,⟨w.heap.size+2,#[.int .i64 cell],3⟩,⟨w.heap.size+3,#[.int .i64 n],2⟩,⟨w.heap.size+4,#[.func (.func tn) tb tc],245⟩]) (by repeat(first|exact ay _ _|refine az ?_ _|refine aF ?_ _|refine aJ ?_)) hlt (by omega) (by simp) (by intro x hx;simp only[List.mem_cons,List.not_mem_nil,or_false]at hx;rcases hx with rfl|rfl|rfl|rfl|rfl<;>first|exact⟨by simp,by simp,aj (by simp)⟩|exact⟨by simp,by simp,kO (aj (by simp))⟩|exact⟨by simp,by simp,kO (kO (aj (by simp)))⟩|exact⟨by simp,by simp,kO (kO (kO (aj (by simp))))⟩|exact⟨by simp,by simp,kO (kO (kO (kO (aj (by simp)))))⟩|exact⟨by simp,by simp,kO (kO (kO (kO (kO (aj (by simp))))))⟩) ⟨rfl,post⟩ rfl)
theorem ye(w:World)(p:Nat)(base most:Int)(nx:Value)(B:List dP)(v:Int)(h:ci w p base most nx)(hb:inB base most) :
  Calls Tryz.prog 158 #[.pointer (some ⟨p,0,none⟩),.int .i64 v] w (aA p base most B (goK base most .keyOf v) w):=by
 obtain⟨⟨c0,c1,c2⟩,f2,hlt⟩:=bC h
 have HP:=kH h
 have HB:=kH hb
 obtain⟨hb0,hb1,hm0,hm1⟩:=hb
 clear h
 by_cases hl:bg most v
 ·rw[show goK base most (.keyOf) v=(bV (base+keyI v),.keyOf1)from if_pos hl]
  go_enter Tryz.func158,Tryz.ntmps158
  go_wp2_with fail
  refine(ll (by repeat first|exact HP.out|refine kO ?_) hl).mono ?_
  rintro e w' ⟨rfl,rfl⟩
  go_wp2_with fail
  refine wp_region_still_tail 4 (by kernel_rfl) (by kernel_rfl) ?_
  change wpStill _ _ (World.drew _) (fun a'=>wpList _ _ _ _ a' (World.drew _)) _ _
  simp only[List.take_succ_cons,List.take_zero,List.drop_succ_cons,List.drop_zero]
  repeat still_step
  still_call ((oB _ (v) (lQ hl) (lP hl hm1)).mono fun _ _ h=>⟨h.1,h.2.symm⟩)
  repeat still_step
  refine wpStill_nil ?_
  go_wp2_with fail
  refine(dS _ p base most nx ([⟨w.heap.size,#[.pointer (some ⟨p,0,none⟩)],191⟩]++B) (.keyOf1) (keyI v) 189 (#[]) (#[.pointer (some ⟨w.heap.size,0,none⟩)]) (by repeat first|exact HP.out|refine kO ?_) HB.out (keyR hl hm1) ⟨_,(List.mem_append_left _ List.mem_cons_self),rfl⟩).mono ?_
  rintro e w1 ⟨rfl,post⟩
  have hg1:=aq post.1 (aj (n:=w.heap.size+1) (by simp)) (by omega)
  obtain⟨⟨d0,d1,d2,d3⟩,⟨g0,g1,g2,g3⟩,hz⟩:=bB hg1
  simp only[ax.val]
  go_wp2
  exact bodyPost_ret (results_cell_row rfl _ _ _ _ _ _ _ rfl (ab (ab (ab (ab hg1)))) Tryz.underlying109 rfl ap) rfl (dN (g:=w.heap.size+1) (M:=[⟨w.heap.size,#[.pointer (some ⟨p,0,none⟩)],191⟩]) (by repeat(first|exact ay _ _|refine az ?_ _|refine aF ?_ _|refine aJ ?_)) hlt (by omega) (by simp) (by intro x hx;simp only[List.mem_cons,List.not_mem_nil,or_false]at hx;rcases hx with rfl<;>first|exact⟨by simp,by simp,aj (by simp)⟩|exact⟨by simp,by simp,kO (aj (by simp))⟩) ⟨rfl,post⟩ rfl)
 ·rw[show goK base most (.keyOf) v=endK 0 1 from if_neg hl]
  go_enter Tryz.func158,Tryz.ntmps158
  go_wp2_with fail
  refine(pI (by repeat first|exact HP.out|refine kO ?_) hl).mono ?_
  rintro e w' ⟨rfl,rfl⟩
  go_wp2_with fail
  refine(di _ p base most nx (B) (0) (1) (by repeat first|exact HP.out|refine kO ?_)).mono ?_
  rintro e w1 ⟨rfl,post⟩
  have hg1:=aq post.1 (aj (n:=w.heap.size+1) (by simp)) (by omega)
  obtain⟨⟨d0,d1,d2,d3⟩,⟨g0,g1,g2,g3⟩,hz⟩:=bB hg1
  simp only[ax.val,endK]
  go_wp2
  exact bodyPost_ret (results_cell_row rfl _ _ _ _ _ _ _ rfl (ab (ab (ab (ab hg1)))) Tryz.underlying109 rfl ap) rfl (aC (w.heap.size+1) hlt ⟨rfl,post⟩)
theorem vH(w:World)(p:Nat)(base most:Int)(nx:Value)(B:List dP)(v:Int)(bx:Nat)(h:ci w p base most nx)(hs:bv w p B)(hb:inB base most)(hbx:XB B p bx) :
  Calls Tryz.prog 189 #[.int .i64 v,.pointer (some ⟨bx,0,none⟩)] w (aA p base most B (endK v 0) w):=by
 obtain⟨⟨c0,c1,c2⟩,f2,hlt⟩:=bC h
 have HP:=kH h
 have HB:=kH hb
 obtain⟨hb0,hb1,hm0,hm1⟩:=hb
 obtain⟨bx0,bxl,bxn⟩:=aO hs hbx
 have Hbx:=kH hbx
 have HS:=kH hs
 clear h hs hbx
 go_enter Tryz.func189,Tryz.ntmps189
 go_wp2_with fail
 refine(di _ p base most nx (B) (v) (0) (by repeat first|exact HP.out|refine kO ?_)).mono ?_
 rintro e w1 ⟨rfl,post⟩
 have hg1:=aq post.1 (aj (n:=w.heap.size) (by simp)) (by omega)
 obtain⟨⟨d0,d1,d2,d3⟩,⟨g0,g1,g2,g3⟩,hz⟩:=bB hg1
 simp only[ax.val,endK]
 go_wp2
 exact bodyPost_ret (results_cell_row rfl _ _ _ _ _ _ _ rfl (ab (ab (ab (ab hg1)))) Tryz.underlying109 rfl ap) rfl (aC w.heap.size hlt ⟨rfl,post⟩)
theorem x6(w:World)(p:Nat)(base most:Int)(nx:Value)(B:List dP)(v:Int)(bx:Nat)(h:ci w p base most nx)(hs:bv w p B)(hb:inB base most)(hbx:XB B p bx) :
  Calls Tryz.prog 156 #[.int .i64 v,.pointer (some ⟨bx,0,none⟩)] w (aA p base most B (bV (base+0),.keyOf) w):=by
 obtain⟨⟨c0,c1,c2⟩,f2,hlt⟩:=bC h
 have HP:=kH h
 have HB:=kH hb
 obtain⟨hb0,hb1,hm0,hm1⟩:=hb
 obtain⟨bx0,bxl,bxn⟩:=aO hs hbx
 have Hbx:=kH hbx
 have HS:=kH hs
 clear h hs hbx
 go_enter Tryz.func156,Tryz.ntmps156
 go_wp2_with fail
 refine(dS _ p base most nx (B) (.keyOf) (0) 158 (#[.pointer (some ⟨p,0,none⟩)]) (#[]) (by repeat first|exact HP.out|refine kO ?_) HB.out (by omega) rfl).mono ?_
 rintro e w1 ⟨rfl,post⟩
 have hg1:=aq post.1 (aj (n:=w.heap.size) (by simp)) (by omega)
 obtain⟨⟨d0,d1,d2,d3⟩,⟨g0,g1,g2,g3⟩,hz⟩:=bB hg1
 simp only[ax.val]
 go_wp2
 exact bodyPost_ret (results_cell_row rfl _ _ _ _ _ _ _ rfl (ab (ab (ab (ab hg1)))) Tryz.underlying109 rfl ap) rfl (aC w.heap.size hlt ⟨rfl,post⟩)
theorem CP(w:World)(p:Nat)(base most:Int)(nx:Value)(B:List dP)(v:Int)(bx:Nat)(h:ci w p base most nx)(hs:bv w p B)(hb:inB base most)(hbx:XB B p bx) :
  Calls Tryz.prog 159 #[.int .i64 v,.pointer (some ⟨bx,0,none⟩)] w (aA p base most B (bV (base+0),.counts 0) w):=by
 obtain⟨⟨c0,c1,c2⟩,f2,hlt⟩:=bC h
 have HP:=kH h
 have HB:=kH hb
 obtain⟨hb0,hb1,hm0,hm1⟩:=hb
 obtain⟨bx0,bxl,bxn⟩:=aO hs hbx
 have Hbx:=kH hbx
 have HS:=kH hs
 clear h hs hbx
 go_enter Tryz.func159,Tryz.ntmps159
 go_wp2_with fail
 refine(pe _ p base most nx B 0 0 (by repeat first|exact HP.out|refine kO ?_) HB.out (by unfold eB;omega) (by omega)).mono ?_
 rintro e w1 ⟨rfl,post⟩
 have hg1:=aq post.1 (aj (n:=w.heap.size) (by simp)) (by omega)
 obtain⟨⟨d0,d1,d2,d3⟩,⟨g0,g1,g2,g3⟩,hz⟩:=bB hg1
 simp only[ax.val]
 go_wp2
 exact bodyPost_ret (results_cell_row rfl _ _ _ _ _ _ _ rfl (ab (ab (ab (ab hg1)))) Tryz.underlying109 rfl ap) rfl (aC w.heap.size hlt ⟨rfl,post⟩)
theorem ua(w:World)(p:Nat)(base most:Int)(nx:Value)(B:List dP)(n v:Int)(bx bn:Nat)(h:ci w p base most nx)(hs:bv w p B)(hb:inB base most)(hbx:XB B p bx)(hbn:VB B n bn)(hn:0<=n/\n<=most) :
  Calls Tryz.prog 190 #[.int .i64 v,.pointer (some ⟨bx,0,none⟩),.pointer (some ⟨bn,0,none⟩)] w (aA p base most B (goK base most (.counts n) v) w):=by
 obtain⟨⟨c0,c1,c2⟩,f2,hlt⟩:=bC h
 have HP:=kH h
 have HB:=kH hb
 obtain⟨hb0,hb1,hm0,hm1⟩:=hb
 obtain⟨bx0,bxl,bxn⟩:=aO hs hbx
 have Hbx:=kH hbx
 obtain⟨bn0,bnl,bnn⟩:=aO hs hbn
 have Hbn:=kH hbn
 have HS:=kH hs
 clear h hs hbx hbn
 obtain⟨hn0,hn1⟩:=hn
 by_cases hl:bg most v
 ·by_cases hne:n=most
  ·rw[show goK base most (.counts n) v=endK n 0 from if_neg (fun h=>h.2 hne)]
   have hne':(n == most)=true:=by simpa using hne
   clear hne
   go_enter Tryz.func190,Tryz.ntmps190
   go_wp2_with fail
   go_quiet((go_at_call 187;exact gV (fun W hW=>ll (p:=p) (base:=base) (most:=most) (nx:=nx) (lk (kO HP.out) hW) hl) _))
   go_wp2_with fail
   refine(di _ p base most nx (B) (n) (0) (by repeat first|exact HP.out|refine kO ?_)).mono ?_
   rintro e w1 ⟨rfl,post⟩
   have hg1:=aq post.1 (aj (n:=w.heap.size) (by simp)) (by omega)
   obtain⟨⟨d0,d1,d2,d3⟩,⟨g0,g1,g2,g3⟩,hz⟩:=bB hg1
   simp only[ax.val,endK]
   go_wp2
   exact bodyPost_ret (results_cell_row rfl _ _ _ _ _ _ _ rfl (ab (ab (ab (ab hg1)))) Tryz.underlying109 rfl ap) rfl (aC w.heap.size hlt ⟨rfl,post⟩)
  ·rw[show goK base most (.counts n) v=(bV (base+linkI v),.counts (n+1))from if_pos ⟨hl,hne⟩]
   have hne':(n == most)=false:=by simpa using hne
   have hne2:n+1<=most:=by omega
   go_enter Tryz.func190,Tryz.ntmps190
   go_wp2_with fail
   go_quiet((go_at_call 187;exact gV (fun W hW=>ll (p:=p) (base:=base) (most:=most) (nx:=nx) (lk (kO HP.out) hW) hl) _))
   go_wp2_with fail
   refine wp_region_still_tail 5 (by kernel_rfl) (by kernel_rfl) ?_
   change wpStill _ _ (World.drew _) (fun a'=>wpList _ _ _ _ a' (World.drew _)) _ _
   simp only[List.take_succ_cons,List.take_zero,List.drop_succ_cons,List.drop_zero]
   repeat still_step
   still_call ((fy _ (v) (lQ hl) (lP hl hm1)).mono fun _ _ h=>⟨h.1,h.2.symm⟩)
   repeat still_step
   refine wpStill_nil ?_
   go_wp2_with fail
   refine(pe _ p base most nx B (linkI v) (n+1) (by repeat first|exact HP.out|refine kO ?_) HB.out (CO hl hm1) (by omega)).mono ?_
   rintro e w1 ⟨rfl,post⟩
   have hg1:=aq post.1 (aj (n:=w.heap.size) (by simp)) (by omega)
   obtain⟨⟨d0,d1,d2,d3⟩,⟨g0,g1,g2,g3⟩,hz⟩:=bB hg1
   simp only[ax.val]
   go_wp2
   exact bodyPost_ret (results_cell_row rfl _ _ _ _ _ _ _ rfl (ab (ab (ab (ab hg1)))) Tryz.underlying109 rfl ap) rfl (aC w.heap.size hlt ⟨rfl,post⟩)
 ·rw[show goK base most (.counts n) v=endK n 0 from if_neg (fun h=>hl h.1)]
  go_enter Tryz.func190,Tryz.ntmps190
  go_wp2_with fail
  go_quiet((go_at_call 187;exact gV (fun W hW=>pI (p:=p) (base:=base) (most:=most) (nx:=nx) (lk (kO HP.out) hW) hl) _))
  go_wp2_with fail
  refine(di _ p base most nx (B) (n) (0) (by repeat first|exact HP.out|refine kO ?_)).mono ?_
  rintro e w1 ⟨rfl,post⟩
  have hg1:=aq post.1 (aj (n:=w.heap.size) (by simp)) (by omega)
  obtain⟨⟨d0,d1,d2,d3⟩,⟨g0,g1,g2,g3⟩,hz⟩:=bB hg1
  simp only[ax.val,endK]
  go_wp2
  exact bodyPost_ret (results_cell_row rfl _ _ _ _ _ _ _ rfl (ab (ab (ab (ab hg1)))) Tryz.underlying109 rfl ap) rfl (aC w.heap.size hlt ⟨rfl,post⟩)
theorem xz(w:World)(p:Nat)(base most:Int)(nx:Value)(B:List dP)(call k v:Int)(bx bk bc:Nat)(h:ci w p base most nx)(hs:bv w p B)(hb:inB base most)(hbx:XB B p bx)(hbk:VB B k bk)(hbc:IB B call bc) :
  Calls Tryz.prog 161 #[.int .i64 v,.pointer (some ⟨bx,0,none⟩),.pointer (some ⟨bk,0,none⟩),.pointer (some ⟨bc,0,none⟩)] w (aA p base most B (bV (base+0),.goes call k 0 0) w):=by
 obtain⟨⟨c0,c1,c2⟩,f2,hlt⟩:=bC h
 have HP:=kH h
 have HB:=kH hb
 obtain⟨hb0,hb1,hm0,hm1⟩:=hb
 obtain⟨bx0,bxl,bxn⟩:=aO hs hbx
 have Hbx:=kH hbx
 obtain⟨bk0,bkl,bkn⟩:=aO hs hbk
 have Hbk:=kH hbk
 obtain⟨bc0,bcl,bcn⟩:=aO hs hbc
 have Hbc:=kH hbc
 have HS:=kH hs
 clear h hs hbx hbk hbc
 go_enter Tryz.func161,Tryz.ntmps161
 go_wp2_with fail
 refine(sH _ p base most nx B call k 0 0 163 #[] #[.pointer (some ⟨bc,0,none⟩),.pointer (some ⟨bx,0,none⟩),.pointer (some ⟨bk,0,none⟩)] (by repeat first|exact HP.out|refine kO ?_) HB.out (by unfold eB;omega) (by omega) ⟨_,_,_,Hbc.out,Hbx.out,Hbk.out,rfl⟩).mono ?_
 rintro e w1 ⟨rfl,post⟩
 have hg1:=aq post.1 (aj (n:=w.heap.size) (by simp)) (by omega)
 obtain⟨⟨d0,d1,d2,d3⟩,⟨g0,g1,g2,g3⟩,hz⟩:=bB hg1
 simp only[ax.val]
 go_wp2
 exact bodyPost_ret (results_cell_row rfl _ _ _ _ _ _ _ rfl (ab (ab (ab (ab hg1)))) Tryz.underlying109 rfl ap) rfl (aC w.heap.size hlt ⟨rfl,post⟩)
end Chn
namespace Chn
open Go.RowKit
theorem sE(w:World)(p:Nat)(base most:Int)(nx:Value)(B:List dP)(k node:Int)(d:WayD)(bx bk:Nat)(h:ci w p base most nx)(hs:bv w p B)(hb:inB base most)(hbx:XB B p bx)(hbk:VB B k bk)(bw:Nat)(hbw:WB B d bw)(hl:bg most node) :
  Calls Tryz.prog 194 #[.int .i64 node,.pointer (some ⟨bx,0,none⟩),.pointer (some ⟨bk,0,none⟩),.pointer (some ⟨bw,0,none⟩)] w (aA p base most B (gE base k d node) w):=by
 obtain⟨⟨c0,c1,c2⟩,f2,hlt⟩:=bC h
 have HP:=kH h
 have HB:=kH hb
 obtain⟨hb0,hb1,hm0,hm1⟩:=hb
 obtain⟨bx0,bxl,bxn⟩:=aO hs hbx
 have Hbx:=kH hbx
 obtain⟨bk0,bkl,bkn⟩:=aO hs hbk
 have Hbk:=kH hbk
 have HS:=kH hs
 clear h hs hbx hbk
 have Hbw:=kH hbw
 clear hbw
 rw[show gE base k d node=(bN (base+keyI node) k,.put (.key k d node))from rfl]
 go_enter Tryz.func194,Tryz.ntmps194
 go_wp2_with fail
 refine wp_region_still_tail 5 (by kernel_rfl) (by kernel_rfl) ?_
 change wpStill _ _ (World.drew _) (fun a'=>wpList _ _ _ _ a' (World.drew _)) _ _
 simp only[List.take_succ_cons,List.take_zero,List.drop_succ_cons,List.drop_zero]
 repeat still_step
 still_call ((oB _ (node) (lQ hl) (lP hl hm1)).mono fun _ _ h=>⟨h.1,h.2.symm⟩)
 repeat still_step
 refine wpStill_nil ?_
 go_wp2_with fail
 refine(eL _ p base most nx ([⟨w.heap.size,#[.int .i64 node],2⟩]++B) (.key k d node) (keyI node) (k) 196 #[] (#[.pointer (some ⟨bx,0,none⟩),.pointer (some ⟨w.heap.size,0,none⟩),.pointer (some ⟨bw,0,none⟩)]) (by repeat first|exact HP.out|refine kO ?_) HB.out (keyR hl hm1) ⟨_,_,_,(List.mem_append_right _ Hbx.out),(List.mem_append_left _ List.mem_cons_self),(List.mem_append_right _ Hbw.out),rfl⟩).mono ?_
 rintro e w1 ⟨rfl,post⟩
 have hg1:=aq post.1 (aj (n:=w.heap.size+1) (by simp)) (by omega)
 obtain⟨⟨d0,d1,d2,d3⟩,⟨g0,g1,g2,g3⟩,hz⟩:=bB hg1
 simp only[ax.val]
 go_wp2
 exact bodyPost_ret (results_cell_row rfl _ _ _ _ _ _ _ rfl (ab (ab (ab (ab hg1)))) Tryz.underlying109 rfl ap) rfl (dN (g:=w.heap.size+1) (M:=[⟨w.heap.size,#[.int .i64 node],2⟩]) (by repeat(first|exact ay _ _|refine az ?_ _|refine aF ?_ _|refine aJ ?_)) hlt (by omega) (by simp) (by intro x hx;simp only[List.mem_cons,List.not_mem_nil,or_false]at hx;rcases hx with rfl<;>first|exact⟨by simp,by simp,aj (by simp)⟩|exact⟨by simp,by simp,kO (aj (by simp))⟩) ⟨rfl,post⟩ rfl)
theorem Bu(w:World)(p:Nat)(base most:Int)(nx:Value)(B:List dP)(k v:Int)(d:WayD)(bx bl:Nat)(h:ci w p base most nx)(hs:bv w p B)(hb:inB base most)(hbx:XB B p bx)(hbl:iT B p k d bl) :
  Calls Tryz.prog 199 #[.int .i64 v,.pointer (some ⟨bx,0,none⟩),.pointer (some ⟨bl,0,none⟩)] w (aA p base most B (goK base most (.addF k d) v) w):=by
 obtain⟨⟨c0,c1,c2⟩,f2,hlt⟩:=bC h
 have HP:=kH h
 have HB:=kH hb
 obtain⟨hb0,hb1,hm0,hm1⟩:=hb
 obtain⟨bx0,bxl,bxn⟩:=aO hs hbx
 have Hbx:=kH hbx
 have HS:=kH hs
 clear h hs hbx
 have Hbl:=kH hbl
 clear hbl
 by_cases hl:bg most v
 ·rw[show goK base most (.addF k d) v=(bV (base+linkI v),.addQ k d v)from if_pos hl]
  go_enter Tryz.func199,Tryz.ntmps199
  go_wp2_with fail
  refine(ll (by repeat first|exact HP.out|refine kO ?_) hl).mono ?_
  rintro e w' ⟨rfl,rfl⟩
  go_wp2_with fail
  refine wp_region_still_tail 4 (by kernel_rfl) (by kernel_rfl) ?_
  change wpStill _ _ (World.drew _) (fun a'=>wpList _ _ _ _ a' (World.drew _)) _ _
  simp only[List.take_succ_cons,List.take_zero,List.drop_succ_cons,List.drop_zero]
  repeat still_step
  still_call ((fy _ (v) (lQ hl) (lP hl hm1)).mono fun _ _ h=>⟨h.1,h.2.symm⟩)
  repeat still_step
  refine wpStill_nil ?_
  go_wp2_with fail
  refine(dS _ p base most nx ([⟨w.heap.size,#[.int .i64 v],2⟩]++B) (.addQ k d v) (linkI v) 200 (#[]) (#[.pointer (some ⟨bx,0,none⟩),.pointer (some ⟨bl,0,none⟩),.pointer (some ⟨w.heap.size,0,none⟩)]) (by repeat first|exact HP.out|refine kO ?_) HB.out (vD hl hm1) ⟨_,_,_,(List.mem_append_right _ Hbx.out),Hbl.out.mono (fun e he=>List.mem_append_right _ he),(List.mem_append_left _ List.mem_cons_self),rfl⟩).mono ?_
  rintro e w1 ⟨rfl,post⟩
  have hg1:=aq post.1 (aj (n:=w.heap.size+1) (by simp)) (by omega)
  obtain⟨⟨d0,d1,d2,d3⟩,⟨g0,g1,g2,g3⟩,hz⟩:=bB hg1
  simp only[ax.val]
  go_wp2
  exact bodyPost_ret (results_cell_row rfl _ _ _ _ _ _ _ rfl (ab (ab (ab (ab hg1)))) Tryz.underlying109 rfl ap) rfl (dN (g:=w.heap.size+1) (M:=[⟨w.heap.size,#[.int .i64 v],2⟩]) (by repeat(first|exact ay _ _|refine az ?_ _|refine aF ?_ _|refine aJ ?_)) hlt (by omega) (by simp) (by intro x hx;simp only[List.mem_cons,List.not_mem_nil,or_false]at hx;rcases hx with rfl<;>first|exact⟨by simp,by simp,aj (by simp)⟩|exact⟨by simp,by simp,kO (aj (by simp))⟩) ⟨rfl,post⟩ rfl)
 ·rw[show goK base most (.addF k d) v=(bV (base+2),.addU k d)from if_neg hl]
  go_enter Tryz.func199,Tryz.ntmps199
  go_wp2_with fail
  refine(pI (by repeat first|exact HP.out|refine kO ?_) hl).mono ?_
  rintro e w' ⟨rfl,rfl⟩
  go_wp2_with fail
  refine(dS _ p base most nx (B) (.addU k d) (2) 202 (#[]) (#[.pointer (some ⟨bx,0,none⟩),.pointer (some ⟨bl,0,none⟩)]) (by repeat first|exact HP.out|refine kO ?_) HB.out (by omega) ⟨_,_,Hbx.out,Hbl.out,rfl⟩).mono ?_
  rintro e w1 ⟨rfl,post⟩
  have hg1:=aq post.1 (aj (n:=w.heap.size+1) (by simp)) (by omega)
  obtain⟨⟨d0,d1,d2,d3⟩,⟨g0,g1,g2,g3⟩,hz⟩:=bB hg1
  simp only[ax.val]
  go_wp2
  exact bodyPost_ret (results_cell_row rfl _ _ _ _ _ _ _ rfl (ab (ab (ab (ab hg1)))) Tryz.underlying109 rfl ap) rfl (aC (w.heap.size+1) hlt ⟨rfl,post⟩)
theorem Bt(w:World)(p:Nat)(base most:Int)(nx:Value)(B:List dP)(k v f:Int)(d:WayD)(bx bl bf:Nat)(h:ci w p base most nx)(hs:bv w p B)(hb:inB base most)(hbx:XB B p bx)(hbl:iT B p k d bl)(hbf:VB B f bf) :
  Calls Tryz.prog 200 #[.int .i64 v,.pointer (some ⟨bx,0,none⟩),.pointer (some ⟨bl,0,none⟩),.pointer (some ⟨bf,0,none⟩)] w (aA p base most B (bN (base+1) v,.put (.lays1 k d f)) w):=by
 obtain⟨⟨c0,c1,c2⟩,f2,hlt⟩:=bC h
 have HP:=kH h
 have HB:=kH hb
 obtain⟨hb0,hb1,hm0,hm1⟩:=hb
 obtain⟨bx0,bxl,bxn⟩:=aO hs hbx
 have Hbx:=kH hbx
 obtain⟨bf0,bfl,bfn⟩:=aO hs hbf
 have Hbf:=kH hbf
 have HS:=kH hs
 clear h hs hbx hbf
 have Hbl:=kH hbl
 clear hbl
 go_enter Tryz.func200,Tryz.ntmps200
 go_wp2_with fail
 refine(eL _ p base most nx (B) (.lays1 k d f) (1) (v) 201 #[] (#[.pointer (some ⟨bl,0,none⟩),.pointer (some ⟨bf,0,none⟩)]) (by repeat first|exact HP.out|refine kO ?_) HB.out (by omega) ⟨_,_,Hbl.out,Hbf.out,rfl⟩).mono ?_
 rintro e w1 ⟨rfl,post⟩
 have hg1:=aq post.1 (aj (n:=w.heap.size) (by simp)) (by omega)
 obtain⟨⟨d0,d1,d2,d3⟩,⟨g0,g1,g2,g3⟩,hz⟩:=bB hg1
 simp only[ax.val]
 go_wp2
 exact bodyPost_ret (results_cell_row rfl _ _ _ _ _ _ _ rfl (ab (ab (ab (ab hg1)))) Tryz.underlying109 rfl ap) rfl (aC w.heap.size hlt ⟨rfl,post⟩)
theorem Br(w:World)(p:Nat)(base most:Int)(nx:Value)(B:List dP)(k v:Int)(d:WayD)(bx bl:Nat)(h:ci w p base most nx)(hs:bv w p B)(hb:inB base most)(hbx:XB B p bx)(hbl:iT B p k d bl) :
  Calls Tryz.prog 202 #[.int .i64 v,.pointer (some ⟨bx,0,none⟩),.pointer (some ⟨bl,0,none⟩)] w (aA p base most B (goK base most (.addU k d) v) w):=by
 obtain⟨⟨c0,c1,c2⟩,f2,hlt⟩:=bC h
 have HP:=kH h
 have HB:=kH hb
 obtain⟨hb0,hb1,hm0,hm1⟩:=hb
 obtain⟨bx0,bxl,bxn⟩:=aO hs hbx
 have Hbx:=kH hbx
 have HS:=kH hs
 clear h hs hbx
 have Hbl:=kH hbl
 clear hbl
 rcases(show v<0\/(0<=v/\most<=v)\/(0<=v/\v<most)from by omega)with hv|⟨hv,hv2⟩|⟨hv,hv2⟩
 ·rw[show goK base most (.addU k d) v=endK 0 2 from if_pos (.inl hv)]
  go_enter Tryz.func202,Tryz.ntmps202
  go_wp2_with fail
  go_quiet(fail)
  go_wp2_with fail
  refine(di _ p base most nx (B) (0) (2) (by repeat first|exact HP.out|refine kO ?_)).mono ?_
  rintro e w1 ⟨rfl,post⟩
  have hg1:=aq post.1 (aj (n:=w.heap.size+1) (by simp)) (by omega)
  obtain⟨⟨d0,d1,d2,d3⟩,⟨g0,g1,g2,g3⟩,hz⟩:=bB hg1
  simp only[ax.val,endK]
  go_wp2
  exact bodyPost_ret (results_cell_row rfl _ _ _ _ _ _ _ rfl (ab (ab (ab (ab hg1)))) Tryz.underlying109 rfl ap) rfl (aC (w.heap.size+1) hlt ⟨rfl,post⟩)
 ·rw[show goK base most (.addU k d) v=endK 0 2 from if_pos (.inr hv2)]
  go_enter Tryz.func202,Tryz.ntmps202
  go_wp2_with fail
  go_quiet(fail)
  go_wp2_with fail
  refine(di _ p base most nx (B) (0) (2) (by repeat first|exact HP.out|refine kO ?_)).mono ?_
  rintro e w1 ⟨rfl,post⟩
  have hg1:=aq post.1 (aj (n:=w.heap.size+1) (by simp)) (by omega)
  obtain⟨⟨d0,d1,d2,d3⟩,⟨g0,g1,g2,g3⟩,hz⟩:=bB hg1
  simp only[ax.val,endK]
  go_wp2
  exact bodyPost_ret (results_cell_row rfl _ _ _ _ _ _ _ rfl (ab (ab (ab (ab hg1)))) Tryz.underlying109 rfl ap) rfl (aC (w.heap.size+1) hlt ⟨rfl,post⟩)
 ·rw[show goK base most (.addU k d) v=(bN (base+2) (v+1),.put (.lays2 k d v))from if_neg (by omega)]
  go_enter Tryz.func202,Tryz.ntmps202
  go_wp2_with fail
  go_quiet(fail)
  go_wp2_with fail
  refine(eL _ p base most nx ([⟨w.heap.size,#[.int .i64 v],2⟩]++B) (.lays2 k d v) (2) (v+1) 203 #[] (#[.pointer (some ⟨bl,0,none⟩),.pointer (some ⟨w.heap.size,0,none⟩)]) (by repeat first|exact HP.out|refine kO ?_) HB.out (by omega) ⟨_,_,Hbl.out.mono (fun e he=>List.mem_append_right _ he),(List.mem_append_left _ List.mem_cons_self),rfl⟩).mono ?_
  rintro e w1 ⟨rfl,post⟩
  have hg1:=aq post.1 (aj (n:=w.heap.size+1) (by simp)) (by omega)
  obtain⟨⟨d0,d1,d2,d3⟩,⟨g0,g1,g2,g3⟩,hz⟩:=bB hg1
  simp only[ax.val]
  go_wp2
  exact bodyPost_ret (results_cell_row rfl _ _ _ _ _ _ _ rfl (ab (ab (ab (ab hg1)))) Tryz.underlying109 rfl ap) rfl (dN (g:=w.heap.size+1) (M:=[⟨w.heap.size,#[.int .i64 v],2⟩]) (by repeat(first|exact ay _ _|refine az ?_ _|refine aF ?_ _|refine aJ ?_)) hlt (by omega) (by simp) (by intro x hx;simp only[List.mem_cons,List.not_mem_nil,or_false]at hx;rcases hx with rfl<;>first|exact⟨by simp,by simp,aj (by simp)⟩|exact⟨by simp,by simp,kO (aj (by simp))⟩) ⟨rfl,post⟩ rfl)
theorem yb(w:World)(p:Nat)(base most:Int)(nx:Value)(B:List dP)(k f:Int)(d:WayD)(s3:Nat)(bl s1 s2 bf:Nat)(h:ci w p base most nx)(hs:bv w p B)(hb:inB base most)(hbl:⟨bl,#[.func (.func 194) #[] #[.pointer (some ⟨s1,0,none⟩),.pointer (some ⟨s2,0,none⟩),.pointer (some ⟨s3,0,none⟩)]],131⟩∈B)(hs1:XB B p s1)(hs2:VB B k s2)(hbf:VB B f bf)(hs3:WB B d s3)(hl:bg most f) :
  Calls Tryz.prog 201 #[.pointer (some ⟨bl,0,none⟩),.pointer (some ⟨bf,0,none⟩)] w (aA p base most B (gE base k d f) w):=by
 obtain⟨⟨c0,c1,c2⟩,f2,hlt⟩:=bC h
 have HP:=kH h
 have HB:=kH hb
 obtain⟨hb0,hb1,hm0,hm1⟩:=hb
 obtain⟨bl0,bll,bln⟩:=aO hs hbl
 have Hbl:=kH hbl
 obtain⟨s10,s1l,s1n⟩:=aO hs hs1
 have Hs1:=kH hs1
 obtain⟨s20,s2l,s2n⟩:=aO hs hs2
 have Hs2:=kH hs2
 obtain⟨bf0,bfl,bfn⟩:=aO hs hbf
 have Hbf:=kH hbf
 have HS:=kH hs
 clear h hs hbl hs1 hs2 hbf
 have Hs3:=kH hs3
 clear hs3
 go_enter Tryz.func201,Tryz.ntmps201
 go_wp2_with fail
 refine(sE _ p base most nx B k f d s1 s2 (by repeat first|exact HP.out|refine kO ?_) (HS.out.keep (by repeat(first|exact ay _ _|refine az ?_ _|refine aF ?_ _|refine aJ ?_))) HB.out Hs1.out Hs2.out _ Hs3.out hl).mono ?_
 rintro e w1 ⟨rfl,post⟩
 have hg1:=aq post.1 (aj (n:=w.heap.size) (by simp)) (by omega)
 obtain⟨⟨d0,d1,d2,d3⟩,⟨g0,g1,g2,g3⟩,hz⟩:=bB hg1
 have POST:=kH post
 clear post
 generalize gE base k d f=r at *
 obtain⟨⟨r0,r1,r2,r3⟩,kk⟩:=r
 simp only[ax.val]
 go_wp2
 exact bodyPost_ret (results_cell_row rfl _ _ _ _ _ _ _ rfl (ab (ab (ab (ab hg1)))) Tryz.underlying109 rfl ap) rfl (aC w.heap.size hlt ⟨rfl,POST.out⟩)
theorem x9(w:World)(p:Nat)(base most:Int)(nx:Value)(B:List dP)(k f:Int)(d:WayD)(s3:Nat)(bl s1 s2 bf:Nat)(h:ci w p base most nx)(hs:bv w p B)(hb:inB base most)(hbl:⟨bl,#[.func (.func 194) #[] #[.pointer (some ⟨s1,0,none⟩),.pointer (some ⟨s2,0,none⟩),.pointer (some ⟨s3,0,none⟩)]],131⟩∈B)(hs1:XB B p s1)(hs2:VB B k s2)(hbf:VB B f bf)(hs3:WB B d s3)(hf:0<=f/\f<most) :
  Calls Tryz.prog 203 #[.pointer (some ⟨bl,0,none⟩),.pointer (some ⟨bf,0,none⟩)] w (aA p base most B (gE base k d (f+1)) w):=by
 obtain⟨⟨c0,c1,c2⟩,f2,hlt⟩:=bC h
 have HP:=kH h
 have HB:=kH hb
 obtain⟨hb0,hb1,hm0,hm1⟩:=hb
 obtain⟨bl0,bll,bln⟩:=aO hs hbl
 have Hbl:=kH hbl
 obtain⟨s10,s1l,s1n⟩:=aO hs hs1
 have Hs1:=kH hs1
 obtain⟨s20,s2l,s2n⟩:=aO hs hs2
 have Hs2:=kH hs2
 obtain⟨bf0,bfl,bfn⟩:=aO hs hbf
 have Hbf:=kH hbf
 have HS:=kH hs
 clear h hs hbl hs1 hs2 hbf
 obtain⟨hf0,hf1⟩:=hf
 have Hs3:=kH hs3
 clear hs3
 have hl:bg most (f+1):=by unfold bg;omega
 go_enter Tryz.func203,Tryz.ntmps203
 go_wp2_with fail
 refine(sE _ p base most nx B k (f+1) d s1 s2 (by repeat first|exact HP.out|refine kO ?_) (HS.out.keep (by repeat(first|exact ay _ _|refine az ?_ _|refine aF ?_ _|refine aJ ?_))) HB.out Hs1.out Hs2.out _ Hs3.out hl).mono ?_
 rintro e w1 ⟨rfl,post⟩
 have hg1:=aq post.1 (aj (n:=w.heap.size) (by simp)) (by omega)
 obtain⟨⟨d0,d1,d2,d3⟩,⟨g0,g1,g2,g3⟩,hz⟩:=bB hg1
 have POST:=kH post
 clear post
 generalize gE base k d (f+1)=r at *
 obtain⟨⟨r0,r1,r2,r3⟩,kk⟩:=r
 simp only[ax.val]
 go_wp2
 exact bodyPost_ret (results_cell_row rfl _ _ _ _ _ _ _ rfl (ab (ab (ab (ab hg1)))) Tryz.underlying109 rfl ap) rfl (aC w.heap.size hlt ⟨rfl,POST.out⟩)
theorem Ao(w:World)(p:Nat)(base most:Int)(nx:Value)(B:List dP)(k node:Int)(d:WayD)(bx bn bw:Nat)(h:ci w p base most nx)(hs:bv w p B)(hb:inB base most)(hbx:XB B p bx)(hbn:VB B node bn)(hbw:WB B d bw)(hl:bg most node) :
  Calls Tryz.prog 196 #[.pointer (some ⟨bx,0,none⟩),.pointer (some ⟨bn,0,none⟩),.pointer (some ⟨bw,0,none⟩)] w (aA p base most B (bN (base+linkI node) d.p,.put (.link k d node)) w):=by
 obtain⟨⟨c0,c1,c2⟩,f2,hlt⟩:=bC h
 have HP:=kH h
 have HB:=kH hb
 obtain⟨hb0,hb1,hm0,hm1⟩:=hb
 obtain⟨bx0,bxl,bxn⟩:=aO hs hbx
 have Hbx:=kH hbx
 obtain⟨bn0,bnl,bnn⟩:=aO hs hbn
 have Hbn:=kH hbn
 obtain⟨⟨bw0,bw1,bw2,bw3,bw4⟩,bwl,bwn⟩:=iU hs hbw
 have Hbw:=kH hbw
 have HS:=kH hs
 clear h hs hbx hbn hbw
 go_enter Tryz.func196,Tryz.ntmps196
 go_wp2_with fail
 refine wp_region_still_tail 6 (by kernel_rfl) (by kernel_rfl) ?_
 change wpStill _ _ (World.drew _) (fun a'=>wpList _ _ _ _ a' (World.drew _)) _ _
 simp only[List.take_succ_cons,List.take_zero,List.drop_succ_cons,List.drop_zero]
 repeat still_step
 still_call ((fy _ (node) (lQ hl) (lP hl hm1)).mono fun _ _ h=>⟨h.1,h.2.symm⟩)
 repeat still_step
 refine wpStill_nil ?_
 go_wp2_with fail
 refine(eL _ p base most nx (B) (.link k d node) (linkI node) (d.p) 197 #[] (#[.pointer (some ⟨bx,0,none⟩),.pointer (some ⟨bw,0,none⟩),.pointer (some ⟨bn,0,none⟩)]) (by repeat first|exact HP.out|refine kO ?_) HB.out (vD hl hm1) ⟨_,_,_,Hbx.out,Hbw.out,Hbn.out,rfl⟩).mono ?_
 rintro e w1 ⟨rfl,post⟩
 have hg1:=aq post.1 (aj (n:=w.heap.size) (by simp)) (by omega)
 obtain⟨⟨d0,d1,d2,d3⟩,⟨g0,g1,g2,g3⟩,hz⟩:=bB hg1
 simp only[ax.val]
 go_wp2
 exact bodyPost_ret (results_cell_row rfl _ _ _ _ _ _ _ rfl (ab (ab (ab (ab hg1)))) Tryz.underlying109 rfl ap) rfl (aC w.heap.size hlt ⟨rfl,post⟩)
theorem xp(w:World)(p:Nat)(base most:Int)(nx:Value)(B:List dP)(node:Int)(d:WayD)(bx bw bn:Nat)(h:ci w p base most nx)(hs:bv w p B)(hb:inB base most)(hbx:XB B p bx)(hbw:WB B d bw)(hbn:VB B node bn)(hc:eB d.cell) :
  Calls Tryz.prog 197 #[.pointer (some ⟨bx,0,none⟩),.pointer (some ⟨bw,0,none⟩),.pointer (some ⟨bn,0,none⟩)] w (aA p base most B (bN (base+d.cell) node,.put .fin) w):=by
 obtain⟨⟨c0,c1,c2⟩,f2,hlt⟩:=bC h
 have HP:=kH h
 have HB:=kH hb
 obtain⟨hb0,hb1,hm0,hm1⟩:=hb
 obtain⟨bx0,bxl,bxn⟩:=aO hs hbx
 have Hbx:=kH hbx
 obtain⟨⟨bw0,bw1,bw2,bw3,bw4⟩,bwl,bwn⟩:=iU hs hbw
 have Hbw:=kH hbw
 obtain⟨bn0,bnl,bnn⟩:=aO hs hbn
 have Hbn:=kH hbn
 have HS:=kH hs
 clear h hs hbx hbw hbn
 go_enter Tryz.func197,Tryz.ntmps197
 go_wp2_with fail
 refine(eL _ p base most nx (B) (.fin) (d.cell) (node) 198 #[] (#[.pointer (some ⟨bx,0,none⟩)]) (by repeat first|exact HP.out|refine kO ?_) HB.out (zO hc) ⟨_,Hbx.out,rfl⟩).mono ?_
 rintro e w1 ⟨rfl,post⟩
 have hg1:=aq post.1 (aj (n:=w.heap.size) (by simp)) (by omega)
 obtain⟨⟨d0,d1,d2,d3⟩,⟨g0,g1,g2,g3⟩,hz⟩:=bB hg1
 simp only[ax.val]
 go_wp2
 exact bodyPost_ret (results_cell_row rfl _ _ _ _ _ _ _ rfl (ab (ab (ab (ab hg1)))) Tryz.underlying109 rfl ap) rfl (aC w.heap.size hlt ⟨rfl,post⟩)
theorem C9(w:World)(p:Nat)(base most:Int)(nx:Value)(B:List dP) (bx:Nat)(h:ci w p base most nx)(hs:bv w p B)(hb:inB base most)(hbx:XB B p bx) :
  Calls Tryz.prog 198 #[.pointer (some ⟨bx,0,none⟩)] w (aA p base most B (endK 0 0) w):=by
 obtain⟨⟨c0,c1,c2⟩,f2,hlt⟩:=bC h
 have HP:=kH h
 have HB:=kH hb
 obtain⟨hb0,hb1,hm0,hm1⟩:=hb
 obtain⟨bx0,bxl,bxn⟩:=aO hs hbx
 have Hbx:=kH hbx
 have HS:=kH hs
 clear h hs hbx
 go_enter Tryz.func198,Tryz.ntmps198
 go_wp2_with fail
 refine(di _ p base most nx (B) (0) (0) (by repeat first|exact HP.out|refine kO ?_)).mono ?_
 rintro e w1 ⟨rfl,post⟩
 have hg1:=aq post.1 (aj (n:=w.heap.size) (by simp)) (by omega)
 obtain⟨⟨d0,d1,d2,d3⟩,⟨g0,g1,g2,g3⟩,hz⟩:=bB hg1
 simp only[ax.val,endK]
 go_wp2
 exact bodyPost_ret (results_cell_row rfl _ _ _ _ _ _ _ rfl (ab (ab (ab (ab hg1)))) Tryz.underlying109 rfl ap) rfl (aC w.heap.size hlt ⟨rfl,post⟩)
theorem Bf(w:World)(p:Nat)(base most:Int)(nx:Value)(B:List dP)(v:Int)(d:WayD)(bx bw:Nat)(h:ci w p base most nx)(hs:bv w p B)(hb:inB base most)(hbx:XB B p bx)(hbw:WB B d bw)(hc:eB d.cell) :
  Calls Tryz.prog 204 #[.int .i64 v,.pointer (some ⟨bx,0,none⟩),.pointer (some ⟨bw,0,none⟩)] w (aA p base most B (bN (base+d.cell) v,.put (.delW d)) w):=by
 obtain⟨⟨c0,c1,c2⟩,f2,hlt⟩:=bC h
 have HP:=kH h
 have HB:=kH hb
 obtain⟨hb0,hb1,hm0,hm1⟩:=hb
 obtain⟨bx0,bxl,bxn⟩:=aO hs hbx
 have Hbx:=kH hbx
 obtain⟨⟨bw0,bw1,bw2,bw3,bw4⟩,bwl,bwn⟩:=iU hs hbw
 have Hbw:=kH hbw
 have HS:=kH hs
 clear h hs hbx hbw
 go_enter Tryz.func204,Tryz.ntmps204
 go_wp2_with fail
 refine(eL _ p base most nx (B) (.delW d) (d.cell) (v) 205 #[] (#[.pointer (some ⟨bx,0,none⟩),.pointer (some ⟨bw,0,none⟩)]) (by repeat first|exact HP.out|refine kO ?_) HB.out (zO hc) ⟨_,_,Hbx.out,Hbw.out,rfl⟩).mono ?_
 rintro e w1 ⟨rfl,post⟩
 have hg1:=aq post.1 (aj (n:=w.heap.size) (by simp)) (by omega)
 obtain⟨⟨d0,d1,d2,d3⟩,⟨g0,g1,g2,g3⟩,hz⟩:=bB hg1
 simp only[ax.val]
 go_wp2
 exact bodyPost_ret (results_cell_row rfl _ _ _ _ _ _ _ rfl (ab (ab (ab (ab hg1)))) Tryz.underlying109 rfl ap) rfl (aC w.heap.size hlt ⟨rfl,post⟩)
theorem Be(w:World)(p:Nat)(base most:Int)(nx:Value)(B:List dP)(d:WayD)(bx bw:Nat)(h:ci w p base most nx)(hs:bv w p B)(hb:inB base most)(hbx:XB B p bx)(hbw:WB B d bw) :
  Calls Tryz.prog 205 #[.pointer (some ⟨bx,0,none⟩),.pointer (some ⟨bw,0,none⟩)] w (aA p base most B (bV (base+1),.delF d) w):=by
 obtain⟨⟨c0,c1,c2⟩,f2,hlt⟩:=bC h
 have HP:=kH h
 have HB:=kH hb
 obtain⟨hb0,hb1,hm0,hm1⟩:=hb
 obtain⟨bx0,bxl,bxn⟩:=aO hs hbx
 have Hbx:=kH hbx
 obtain⟨⟨bw0,bw1,bw2,bw3,bw4⟩,bwl,bwn⟩:=iU hs hbw
 have Hbw:=kH hbw
 have HS:=kH hs
 clear h hs hbx hbw
 go_enter Tryz.func205,Tryz.ntmps205
 go_wp2_with fail
 refine(dS _ p base most nx (B) (.delF d) (1) 206 (#[]) (#[.pointer (some ⟨bx,0,none⟩),.pointer (some ⟨bw,0,none⟩)]) (by repeat first|exact HP.out|refine kO ?_) HB.out (by omega) ⟨_,_,Hbx.out,Hbw.out,rfl⟩).mono ?_
 rintro e w1 ⟨rfl,post⟩
 have hg1:=aq post.1 (aj (n:=w.heap.size) (by simp)) (by omega)
 obtain⟨⟨d0,d1,d2,d3⟩,⟨g0,g1,g2,g3⟩,hz⟩:=bB hg1
 simp only[ax.val]
 go_wp2
 exact bodyPost_ret (results_cell_row rfl _ _ _ _ _ _ _ rfl (ab (ab (ab (ab hg1)))) Tryz.underlying109 rfl ap) rfl (aC w.heap.size hlt ⟨rfl,post⟩)
theorem Bh(w:World)(p:Nat)(base most:Int)(nx:Value)(B:List dP)(v:Int)(d:WayD)(bx bw:Nat)(h:ci w p base most nx)(hs:bv w p B)(hb:inB base most)(hbx:XB B p bx)(hbw:WB B d bw)(hl:bg most d.p) :
  Calls Tryz.prog 206 #[.int .i64 v,.pointer (some ⟨bx,0,none⟩),.pointer (some ⟨bw,0,none⟩)] w (aA p base most B (bN (base+linkI d.p) v,.put (.delL d)) w):=by
 obtain⟨⟨c0,c1,c2⟩,f2,hlt⟩:=bC h
 have HP:=kH h
 have HB:=kH hb
 obtain⟨hb0,hb1,hm0,hm1⟩:=hb
 obtain⟨bx0,bxl,bxn⟩:=aO hs hbx
 have Hbx:=kH hbx
 obtain⟨⟨bw0,bw1,bw2,bw3,bw4⟩,bwl,bwn⟩:=iU hs hbw
 have Hbw:=kH hbw
 have HS:=kH hs
 clear h hs hbx hbw
 go_enter Tryz.func206,Tryz.ntmps206
 go_wp2_with fail
 refine wp_region_still_tail 6 (by kernel_rfl) (by kernel_rfl) ?_
 change wpStill _ _ (World.drew _) (fun a'=>wpList _ _ _ _ a' (World.drew _)) _ _
 simp only[List.take_succ_cons,List.take_zero,List.drop_succ_cons,List.drop_zero]
 repeat still_step
 still_call ((fy _ (d.p) (lQ hl) (lP hl hm1)).mono fun _ _ h=>⟨h.1,h.2.symm⟩)
 repeat still_step
 refine wpStill_nil ?_
 go_wp2_with fail
 refine(eL _ p base most nx (B) (.delL d) (linkI d.p) (v) 207 #[] (#[.pointer (some ⟨bx,0,none⟩),.pointer (some ⟨bw,0,none⟩)]) (by repeat first|exact HP.out|refine kO ?_) HB.out (vD hl hm1) ⟨_,_,Hbx.out,Hbw.out,rfl⟩).mono ?_
 rintro e w1 ⟨rfl,post⟩
 have hg1:=aq post.1 (aj (n:=w.heap.size) (by simp)) (by omega)
 obtain⟨⟨d0,d1,d2,d3⟩,⟨g0,g1,g2,g3⟩,hz⟩:=bB hg1
 simp only[ax.val]
 go_wp2
 exact bodyPost_ret (results_cell_row rfl _ _ _ _ _ _ _ rfl (ab (ab (ab (ab hg1)))) Tryz.underlying109 rfl ap) rfl (aC w.heap.size hlt ⟨rfl,post⟩)
theorem Bg(w:World)(p:Nat)(base most:Int)(nx:Value)(B:List dP)(d:WayD)(bx bw:Nat)(h:ci w p base most nx)(hs:bv w p B)(hb:inB base most)(hbx:XB B p bx)(hbw:WB B d bw) :
  Calls Tryz.prog 207 #[.pointer (some ⟨bx,0,none⟩),.pointer (some ⟨bw,0,none⟩)] w (aA p base most B (bN (base+1) d.p,.put .delFin) w):=by
 obtain⟨⟨c0,c1,c2⟩,f2,hlt⟩:=bC h
 have HP:=kH h
 have HB:=kH hb
 obtain⟨hb0,hb1,hm0,hm1⟩:=hb
 obtain⟨bx0,bxl,bxn⟩:=aO hs hbx
 have Hbx:=kH hbx
 obtain⟨⟨bw0,bw1,bw2,bw3,bw4⟩,bwl,bwn⟩:=iU hs hbw
 have Hbw:=kH hbw
 have HS:=kH hs
 clear h hs hbx hbw
 go_enter Tryz.func207,Tryz.ntmps207
 go_wp2_with fail
 refine(eL _ p base most nx (B) (.delFin) (1) (d.p) 208 #[] (#[.pointer (some ⟨bx,0,none⟩)]) (by repeat first|exact HP.out|refine kO ?_) HB.out (by omega) ⟨_,Hbx.out,rfl⟩).mono ?_
 rintro e w1 ⟨rfl,post⟩
 have hg1:=aq post.1 (aj (n:=w.heap.size) (by simp)) (by omega)
 obtain⟨⟨d0,d1,d2,d3⟩,⟨g0,g1,g2,g3⟩,hz⟩:=bB hg1
 simp only[ax.val]
 go_wp2
 exact bodyPost_ret (results_cell_row rfl _ _ _ _ _ _ _ rfl (ab (ab (ab (ab hg1)))) Tryz.underlying109 rfl ap) rfl (aC w.heap.size hlt ⟨rfl,post⟩)
theorem wj(w:World)(p:Nat)(base most:Int)(nx:Value)(B:List dP) (bx:Nat)(h:ci w p base most nx)(hs:bv w p B)(hb:inB base most)(hbx:XB B p bx) :
  Calls Tryz.prog 208 #[.pointer (some ⟨bx,0,none⟩)] w (aA p base most B (endK 0 0) w):=by
 obtain⟨⟨c0,c1,c2⟩,f2,hlt⟩:=bC h
 have HP:=kH h
 have HB:=kH hb
 obtain⟨hb0,hb1,hm0,hm1⟩:=hb
 obtain⟨bx0,bxl,bxn⟩:=aO hs hbx
 have Hbx:=kH hbx
 have HS:=kH hs
 clear h hs hbx
 go_enter Tryz.func208,Tryz.ntmps208
 go_wp2_with fail
 refine(di _ p base most nx (B) (0) (0) (by repeat first|exact HP.out|refine kO ?_)).mono ?_
 rintro e w1 ⟨rfl,post⟩
 have hg1:=aq post.1 (aj (n:=w.heap.size) (by simp)) (by omega)
 obtain⟨⟨d0,d1,d2,d3⟩,⟨g0,g1,g2,g3⟩,hz⟩:=bB hg1
 simp only[ax.val,endK]
 go_wp2
 exact bodyPost_ret (results_cell_row rfl _ _ _ _ _ _ _ rfl (ab (ab (ab (ab hg1)))) Tryz.underlying109 rfl ap) rfl (aC w.heap.size hlt ⟨rfl,post⟩)
end Chn
end Go.Proofs.YtgfogfciobmmpaaGreatDoor
