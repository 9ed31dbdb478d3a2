/- A part of the proof of the law TopTells: QueMach16. -/
import Derived.Test.YtgfogfciobmmpaaGreatDoorPAb
import Derived.KernelRfl
import Derived.Laws.EntriesVeiled
import Derived.Deep.RegionWith
import Derived.StillTailTactics
set_option linter.unusedSimpArgs false
set_option linter.unusedVariables false
set_option maxRecDepth 100000
set_option maxHeartbeats 8000000
namespace Go.Proofs.YtgfogfciobmmpaaGreatDoor
namespace Que
open Go.RowKit
def u64 (x:Int):Int:=x % 18446744073709551616
def behindI (f k n:Int):Int:=(u64 f % n+k % n) % n
theorem u64_wrap (f:Int):IntKind.u64.wrap f=u64 f:=by
 unfold u64
 simp [IntKind.wrap,IntKind.bits,IntKind.signed]
theorem u64_bounds (f:Int):0≤u64 f∧u64 f≤18446744073709551615:=by unfold u64;omega
theorem behind_bounds (f k n:Int) (h1:1≤n):0≤behindI f k n∧behindI f k n < n :=
 ⟨Int.emod_nonneg _ (by omega),Int.emod_lt_of_pos _ (by omega)⟩
theorem behind_eq (f k n:Int) (h1:1≤n) (h2:n≤16):wrap64 ((IntKind.u64.wrap ((IntKind.u64.wrap f).tmod n+k % n)).tmod n)=behindI f k n:=by
 have hf:=u64_bounds f
 rw [u64_wrap,u64_wrap,Int.tmod_eq_emod_of_nonneg hf.1]
 have ha:=Int.emod_nonneg (u64 f) (show n≠0 by omega)
 have ha2:=Int.emod_lt_of_pos (u64 f) (show 0 < n by omega)
 have hb:=Int.emod_nonneg k (show n≠0 by omega)
 have hb2:=Int.emod_lt_of_pos k (show 0 < n by omega)
 have hs:u64 (u64 f % n+k % n)=u64 f % n+k % n:=by unfold u64 at *;omega
 rw [hs,Int.tmod_eq_emod_of_nonneg (by omega)]
 have hc:=Int.emod_nonneg (u64 f % n+k % n) (show n≠0 by omega)
 have hc2:=Int.emod_lt_of_pos (u64 f % n+k % n) (show 0 < n by omega)
 unfold behindI
 unfold wrap64
 omega
def Drew (v:Value) (w:World) (e:Ending) (w':World):Prop:=e=.returned v∧∃ q,w'=w.drewN q
theorem behind_calls (w:World) (f k n:Int) (h1:1≤n) (h2:n≤16) (hk:0≤k) (hk2:k≤18446744073709551615) :
   Calls Tryz.prog 235 #[.int .i64 f,.int .u64 k,.int .i64 n] w (Drew (.int .i64 (behindI f k n)) w):=by
 have h3:(n == 0)=false:=by simp;omega
 have HE:=kH (behind_eq f k n h1 h2)
 go_enter Tryz.func235,Tryz.ntmps235
 go_wp2
 go_quiet (fail)
 go_wp2
 go_ret
 exact ⟨by rw [← HE.out];rfl,_,rfl⟩
structure QS where
 base:Int
 most:Int
 call:Int
 v:Int
 f:Int
 l:Int
def QS.cells (m:QS) (nx:Value):Array Value:=#[.int .i64 m.base,.int .i64 m.most,.int .i64 m.call,.int .i64 m.v,nx,.int .i64 m.f,.int .i64 m.l]
def QRep (w:World) (p:Nat) (m:QS) (nx:Value):Prop:=w.heap[p]?=some (.cells (m.cells nx) 230 (0,0))
def QS.ok (m:QS):Prop:=0≤m.base∧m.base≤1024∧0≤m.most∧m.most≤16
def fnV (n:Nat):Value:=.func (.func n) #[] #[]
def StepPost (p:Nat) (m:QS) (nx:Value) (x:WantS) (w:World) (e:Ending) (w':World):Prop:=e=.returned x.val∧w.grownBy w' (some p)∧QRep w' p m nx
theorem box7 {w:World} {p:Nat} {m:QS} {nx:Value} (h:QRep w p m nx) :
   (w.cell? ⟨p,0,none⟩=some (.int .i64 m.base)∧w.cell? ⟨p,1,none⟩=some (.int .i64 m.most)∧w.cell? ⟨p,2,none⟩=some (.int .i64 m.call)∧w.cell? ⟨p,3,none⟩=some (.int .i64 m.v) ∧
     w.cell? ⟨p,4,none⟩=some nx∧w.cell? ⟨p,5,none⟩=some (.int .i64 m.f)∧w.cell? ⟨p,6,none⟩=some (.int .i64 m.l)) ∧
   (w.frozen? ⟨p,3,none⟩=false∧w.frozen? ⟨p,4,none⟩=false∧w.frozen? ⟨p,5,none⟩=false∧w.frozen? ⟨p,6,none⟩=false)∧p < w.heap.size:=by
 unfold QRep QS.cells at h
 have hc:=fun j=>cell_of_row w p j _ _ _ h
 have hf:=fun j=>frozen_of_row w p j _ _ h
 refine ⟨⟨?_,?_,?_,?_,?_,?_,?_⟩,⟨hf 3,hf 4,hf 5,hf 6⟩,(Array.getElem?_eq_some_iff.1 h).1⟩
 · simpa using hc 0
 · simpa using hc 1
 · simpa using hc 2
 · simpa using hc 3
 · simpa using hc 4
 · simpa using hc 5
 · simpa using hc 6
theorem read_calls (w:World) (p:Nat) (m:QS) (nx:Value) (cell:Int) (n:Nat) (h:QRep w p m nx) (hm:m.ok) (hc:0≤cell∧cell≤100) :
   Calls Tryz.prog 181 #[.pointer (some ⟨p,0,none⟩),.int .i64 cell,.func (.func n) #[] #[]] w (StepPost p m (fnV n) (readS (m.base+cell)) w):=by
 obtain ⟨⟨c0,c1,c2,c3,c4,c5,c6⟩,⟨f3,f4,f5,f6⟩,hlt⟩:=box7 h
 have HP:=kH h
 obtain ⟨base,most,call,v,f,l⟩:=m
 obtain ⟨hb0,hb1,hm0,hm1⟩:=hm
 obtain ⟨hc0,hc1⟩:=hc
 dsimp only at hb0 hb1 hm0 hm1 c0
 clear h
 go_enter Tryz.func181,Tryz.ntmps181
 go_wp2
 refine bodyPost_ret (results_cell_row rfl _ _ _ _ _ _ _ rfl (heap_new (by simp)) Tryz.underlying109 rfl infoWant) rfl ⟨rfl,grown_alloc (grown_set (grown_refl _ _) _) _,?_⟩
 exact kO (heap_set HP.out)
-- STEPS
theorem write_calls (w:World) (p:Nat) (m:QS) (nx:Value) (cell v:Int) (n:Nat) (h:QRep w p m nx) (hm:m.ok) (hc:0≤cell∧cell≤100) :
   Calls Tryz.prog 234 #[.pointer (some ⟨p,0,none⟩),.int .i64 cell,.int .i64 v,.func (.func n) #[] #[]] w (StepPost p m (fnV n) (putS (m.base+cell) v) w):=by
 obtain ⟨⟨c0,c1,c2,c3,c4,c5,c6⟩,⟨f3,f4,f5,f6⟩,hlt⟩:=box7 h
 have HP:=kH h
 obtain ⟨base,most,call,v0,f,l⟩:=m
 obtain ⟨hb0,hb1,hm0,hm1⟩:=hm
 obtain ⟨hc0,hc1⟩:=hc
 dsimp only at hb0 hb1 hm0 hm1 c0
 clear h
 go_enter Tryz.func234,Tryz.ntmps234
 go_wp2
 refine bodyPost_ret (results_cell_row rfl _ _ _ _ _ _ _ rfl (heap_new (by simp)) Tryz.underlying109 rfl infoWant) rfl ⟨rfl,grown_alloc (grown_set (grown_refl _ _) _) _,?_⟩
 exact kO (heap_set HP.out)
def DonePost (p:Nat) (m:QS) (x:WantS) (w:World) (e:Ending) (w':World):Prop :=
 e=.returned x.val∧w.grownBy w' (some p)∧∃ c,w.heap.size≤c∧QRep w' p m (.func (.func 244) #[] #[.pointer (some ⟨c,0,none⟩)]) ∧
   w'.heap[c]?=some (.cells #[.int .i64 x.kind,.int .i64 x.cell,.int .i64 x.value,.int .i64 x.code] 109 (0,0))
theorem done_calls (w:World) (p:Nat) (m:QS) (nx:Value) (v code:Int) (h:QRep w p m nx) :
   Calls Tryz.prog 233 #[.pointer (some ⟨p,0,none⟩),.int .i64 v,.int .i64 code] w (DonePost p m ⟨6,0,v,code⟩ w):=by
 obtain ⟨⟨c0,c1,c2,c3,c4,c5,c6⟩,⟨f3,f4,f5,f6⟩,hlt⟩:=box7 h
 have HP:=kH h
 clear h
 go_enter Tryz.func233,Tryz.ntmps233
 go_wp2
 refine bodyPost_ret (results_cell_row rfl _ _ _ _ _ _ _ rfl (kO (heap_new (by simp))) Tryz.underlying109 rfl infoWant) rfl ⟨rfl,grown_alloc (grown_alloc (grown_set (grown_refl _ _) _) _) _,w.heap.size+1,by omega,kO (kO (heap_set HP.out)),heap_new (by simp)⟩
theorem grown_trans {a b c:World} {r:Option Nat} (h:a.grownBy b r) (k:b.grownBy c r):a.grownBy c r :=
 ⟨k.os.trans h.os,k.tape.trans h.tape,k.output.trans h.output,Nat.le_trans h.size k.size,fun q hq hne=>(k.block q (Nat.lt_of_lt_of_le hq h.size) hne).trans (h.block q hq hne)⟩
theorem close4 {w w1:World} {p g:Nat} {m:QS} {nx:Value} {x:WantS} {o:Obj} {a b c d:Value} (hlt:p < w.heap.size) (hg:g=w.heap.size) (h1:(w.alloc o).grownBy w1 (some p)) (h2:QRep w1 p m nx) {e:Ending} (he:e=.returned x.val) :
   StepPost p m nx x w e ((((w1.setCell ⟨g,0,none⟩ a).setCell ⟨g,1,none⟩ b).setCell ⟨g,2,none⟩ c).setCell ⟨g,3,none⟩ d):=by
 have hs:=h1.size
 have hs':w.heap.size+1≤w1.heap.size:=by simpa using hs
 refine ⟨he,⟨h1.os,h1.tape,h1.output,by simp;omega,fun k hk hne=>?_⟩,?_⟩
 · have e:g≠k:=by omega
   rw [Below.heap_setCell _ _ _ _ (by simpa using e.symm),Below.heap_setCell _ _ _ _ (by simpa using e.symm),Below.heap_setCell _ _ _ _ (by simpa using e.symm),Below.heap_setCell _ _ _ _ (by simpa using e.symm),h1.block k (by simp;omega) hne]
   exact Below.heap_alloc _ _ _ hk
 · exact heap_set_other (heap_set_other (heap_set_other (heap_set_other h2 (by simp;omega)) (by simp;omega)) (by simp;omega)) (by simp;omega)
theorem begin_calls (w:World) (p:Nat) (m:QS) (nx:Value) (v:Int) (h:QRep w p m nx) (hm:m.ok) :
   Calls Tryz.prog 151 #[.pointer (some ⟨p,0,none⟩),.int .i64 v] w (StepPost p m (fnV 182) (readS m.base) w):=by
 obtain ⟨⟨c0,c1,c2,c3,c4,c5,c6⟩,⟨f3,f4,f5,f6⟩,hlt⟩:=box7 h
 have HP:=kH h
 have HM:=kH hm
 obtain ⟨hb0,hb1,hm0,hm1⟩:=hm
 clear h
 go_enter Tryz.func151,Tryz.ntmps151
 go_wp2_with (go_at_call 181;refine (read_calls _ p m nx 0 182 (kO HP.out) HM.out (by omega)).mono ?_;rintro e w1 ⟨rfl,post1⟩;have hg1:=box_grown post1.1 (heap_new (n:=w.heap.size) (by simp)) (by omega);obtain ⟨⟨d0,d1,d2,d3⟩,⟨g0,g1,g2,g3⟩,hz⟩:=box4 hg1;simp only [WantS.val])
 exact bodyPost_ret (results_cell_row rfl _ _ _ _ _ _ _ rfl (heap_set (heap_set (heap_set (heap_set hg1)))) Tryz.underlying109 rfl infoWant) rfl (close4 hlt rfl post1.1 post1.2 rfl)
theorem qrep_drewN {w:World} {p:Nat} {m:QS} {nx:Value} {q:Nat} (h:QRep w p m nx):QRep (w.drewN q) p m nx:=h
theorem heap_new_drewN {w:World} {o:Obj} {n q:Nat} (h:n=w.heap.size):((w.alloc o).drewN q).heap[n]?=some o:=heap_new h
theorem close4s {w w0 w1:World} {p g:Nat} {m:QS} {nx:Value} {x:WantS} {o:Obj} {a b c d:Value} (h0:w.grownBy w0 (some p)) (hlt:p < w0.heap.size) (hg:g=w0.heap.size) (h1:(w0.alloc o).grownBy w1 (some p)) (h2:QRep w1 p m nx) {e:Ending} (he:e=.returned x.val) :
   StepPost p m nx x w e ((((w1.setCell ⟨g,0,none⟩ a).setCell ⟨g,1,none⟩ b).setCell ⟨g,2,none⟩ c).setCell ⟨g,3,none⟩ d):=by
 obtain ⟨k1,k2,k3⟩:=close4 (a:=a) (b:=b) (c:=c) (d:=d) hlt hg h1 h2 he
 exact ⟨k1,grown_trans h0 k2,k3⟩
theorem close4d {w w1:World} {p g:Nat} {m:QS} {x:WantS} {o:Obj} {a b c d:Value} (hlt:p < w.heap.size) (hg:g=w.heap.size) {v1:Value} (h1:DonePost p m x (w.alloc o) (.returned v1) w1) {e:Ending} (he:e=.returned x.val) :
   DonePost p m x w e ((((w1.setCell ⟨g,0,none⟩ a).setCell ⟨g,1,none⟩ b).setCell ⟨g,2,none⟩ c).setCell ⟨g,3,none⟩ d):=by
 obtain ⟨-,h2,k,h3,h4,h5⟩:=h1
 obtain ⟨-,g1,g2⟩:=close4 (x:=x) (a:=a) (b:=b) (c:=c) (d:=d) (e:=.returned x.val) hlt hg h2 h4 rfl
 have hk:w.heap.size+1≤k:=by simpa using h3
 exact ⟨he,g1,k,by omega,g2,heap_set_other (heap_set_other (heap_set_other (heap_set_other h5 (by simp;omega)) (by simp;omega)) (by simp;omega)) (by simp;omega)⟩
theorem close4ds {w w0 w1:World} {p g:Nat} {m:QS} {x:WantS} {o:Obj} {a b c d:Value} (h0:w.grownBy w0 (some p)) (hlt:p < w0.heap.size) (hg:g=w0.heap.size) {v1:Value} (h1:DonePost p m x (w0.alloc o) (.returned v1) w1) {e:Ending} (he:e=.returned x.val) :
   DonePost p m x w e ((((w1.setCell ⟨g,0,none⟩ a).setCell ⟨g,1,none⟩ b).setCell ⟨g,2,none⟩ c).setCell ⟨g,3,none⟩ d):=by
 obtain ⟨k1,k2,k,k3,k4⟩:=close4d (a:=a) (b:=b) (c:=c) (d:=d) hlt hg h1 he
 exact ⟨k1,grown_trans h0 k2,k,Nat.le_trans h0.size k3,k4⟩
theorem done1_calls (w:World) (c:Nat) (x:WantS) (u v:Value) (h:w.heap[c]?=some (.cells #[.int .i64 x.kind,.int .i64 x.cell,.int .i64 x.value,.int .i64 x.code] 109 (0,0))) :
   Calls Tryz.prog 244 #[u,v,.pointer (some ⟨c,0,none⟩)] w (Gives x.val w):=by
 obtain ⟨⟨c0,c1,c2,c3⟩,-,hlt⟩:=box4 h
 clear h
 go_enter Tryz.func244,Tryz.ntmps244
 go_wp2
 refine bodyPost_ret (results_cell_row rfl _ _ _ _ _ _ _ rfl (heap_new (by simp)) Tryz.underlying109 rfl infoWant) rfl ⟨rfl,below_alloc _ _⟩
theorem tookFirst_calls (w:World) (p:Nat) (m:QS) (nx:Value) (v:Int) (h:QRep w p m nx) (hm:m.ok) :
   Calls Tryz.prog 182 #[.pointer (some ⟨p,0,none⟩),.int .i64 v] w (StepPost p { m with f:=v } (fnV 223) (readS (m.base+1)) w):=by
 obtain ⟨⟨c0,c1,c2,c3,c4,c5,c6⟩,⟨f3,f4,f5,f6⟩,hlt⟩:=box7 h
 have HP:=kH h
 have HM:=kH hm
 obtain ⟨hb0,hb1,hm0,hm1⟩:=hm
 have HP2:Hid (QRep (w.setCell ⟨p,5,none⟩ (.int .i64 v)) p { m with f:=v } nx):=heap_set HP.out
 have HM2:Hid (QS.ok { m with f:=v }):=HM.out
 clear h
 go_enter Tryz.func182,Tryz.ntmps182
 go_wp2_with (go_at_call 181;refine (read_calls _ p { m with f:=v } nx 1 223 (kO HP2.out) HM2.out (by omega)).mono ?_;rintro e w1 ⟨rfl,post1⟩;have hg1:=box_grown post1.1 (heap_new (n:=w.heap.size) (by simp)) (by omega);obtain ⟨⟨d0,d1,d2,d3⟩,⟨g0,g1,g2,g3⟩,hz⟩:=box4 hg1;simp only [WantS.val])
 refine bodyPost_ret (results_cell_row rfl _ _ _ _ _ _ _ rfl (heap_set (heap_set (heap_set (heap_set hg1)))) Tryz.underlying109 rfl infoWant) rfl ?_
 exact close4s (grown_set (grown_refl _ _) _) (by simpa using hlt) (by simp) post1.1 post1.2 rfl
theorem laid_calls (w:World) (p:Nat) (m:QS) (nx:Value) (v:Int) (h:QRep w p m nx) (hm:m.ok) :
   Calls Tryz.prog 236 #[.pointer (some ⟨p,0,none⟩),.int .i64 v] w (StepPost p m (fnV 245) (putS (m.base+1) (wrap64 (m.l+1))) w):=by
 obtain ⟨⟨c0,c1,c2,c3,c4,c5,c6⟩,⟨f3,f4,f5,f6⟩,hlt⟩:=box7 h
 have HP:=kH h
 have HM:=kH hm
 obtain ⟨hb0,hb1,hm0,hm1⟩:=hm
 clear h
 go_enter Tryz.func236,Tryz.ntmps236
 go_wp2_with (go_at_call 234;refine (write_calls _ p m nx 1 _ 245 (kO HP.out) HM.out (by omega)).mono ?_;rintro e w1 ⟨rfl,post1⟩;have hg1:=box_grown post1.1 (heap_new (n:=w.heap.size) (by simp)) (by omega);obtain ⟨⟨d0,d1,d2,d3⟩,⟨g0,g1,g2,g3⟩,hz⟩:=box4 hg1;simp only [WantS.val])
 exact bodyPost_ret (results_cell_row rfl _ _ _ _ _ _ _ rfl (heap_set (heap_set (heap_set (heap_set hg1)))) Tryz.underlying109 rfl infoWant) rfl (close4 hlt rfl post1.1 post1.2 rfl)
theorem moved_calls (w:World) (p:Nat) (m:QS) (nx:Value) (v:Int) (h:QRep w p m nx) (hm:m.ok) :
   Calls Tryz.prog 246 #[.pointer (some ⟨p,0,none⟩),.int .i64 v] w (StepPost p m (fnV 250) (putS (m.base+1) (wrap64 (m.l - 1))) w):=by
 obtain ⟨⟨c0,c1,c2,c3,c4,c5,c6⟩,⟨f3,f4,f5,f6⟩,hlt⟩:=box7 h
 have HP:=kH h
 have HM:=kH hm
 obtain ⟨hb0,hb1,hm0,hm1⟩:=hm
 clear h
 go_enter Tryz.func246,Tryz.ntmps246
 go_wp2_with (go_at_call 234;refine (write_calls _ p m nx 1 _ 250 (kO HP.out) HM.out (by omega)).mono ?_;rintro e w1 ⟨rfl,post1⟩;have hg1:=box_grown post1.1 (heap_new (n:=w.heap.size) (by simp)) (by omega);obtain ⟨⟨d0,d1,d2,d3⟩,⟨g0,g1,g2,g3⟩,hz⟩:=box4 hg1;simp only [WantS.val])
 exact bodyPost_ret (results_cell_row rfl _ _ _ _ _ _ _ rfl (heap_set (heap_set (heap_set (heap_set hg1)))) Tryz.underlying109 rfl infoWant) rfl (close4 hlt rfl post1.1 post1.2 rfl)
theorem laid1_calls (w:World) (p:Nat) (m:QS) (nx:Value) (v:Int) (h:QRep w p m nx) :
   Calls Tryz.prog 245 #[.pointer (some ⟨p,0,none⟩),.int .i64 v] w (DonePost p m ⟨6,0,0,0⟩ w):=by
 have hlt:p < w.heap.size:=(Array.getElem?_eq_some_iff.1 h).1
 have HP:=kH h
 clear h
 go_enter Tryz.func245,Tryz.ntmps245
 go_wp2_with fail
 refine (done_calls _ p m nx 0 0 (kO HP.out)).mono ?_
 rintro e w1 ⟨rfl,post1,post2⟩
 have hg1:=box_grown post1 (heap_new (n:=w.heap.size) (by simp)) (by omega)
 obtain ⟨⟨d0,d1,d2,d3⟩,⟨g0,g1,g2,g3⟩,hz⟩:=box4 hg1
 have hd:DonePost p m ⟨6,0,0,0⟩ (w.alloc (.cells #[.int .i64 0,.int .i64 0,.int .i64 0,.int .i64 0] 109)) (.returned (⟨6,0,0,0⟩:WantS).val) w1:=⟨rfl,post1,post2⟩
 have HD:Hid (DonePost p m ⟨6,0,0,0⟩ (w.alloc (.cells #[.int .i64 0,.int .i64 0,.int .i64 0,.int .i64 0] 109)) (.returned (⟨6,0,0,0⟩:WantS).val) w1):=hd
 clear post1 post2 hd
 simp only [WantS.val]
 go_wp2
 exact bodyPost_ret (results_cell_row rfl _ _ _ _ _ _ _ rfl (heap_set (heap_set (heap_set (heap_set hg1)))) Tryz.underlying109 rfl infoWant) rfl (close4d hlt rfl HD.out rfl)
theorem moved1_calls (w:World) (p:Nat) (m:QS) (nx:Value) (v:Int) (h:QRep w p m nx) :
   Calls Tryz.prog 250 #[.pointer (some ⟨p,0,none⟩),.int .i64 v] w (DonePost p m ⟨6,0,m.v,0⟩ w):=by
 obtain ⟨⟨c0,c1,c2,c3,c4,c5,c6⟩,⟨f3,f4,f5,f6⟩,hlt⟩:=box7 h
 have HP:=kH h
 clear h
 go_enter Tryz.func250,Tryz.ntmps250
 go_wp2_with fail
 refine (done_calls _ p m nx m.v 0 (kO HP.out)).mono ?_
 rintro e w1 ⟨rfl,post1,post2⟩
 have hg1:=box_grown post1 (heap_new (n:=w.heap.size) (by simp)) (by omega)
 obtain ⟨⟨d0,d1,d2,d3⟩,⟨g0,g1,g2,g3⟩,hz⟩:=box4 hg1
 have hd:DonePost p m ⟨6,0,m.v,0⟩ (w.alloc (.cells #[.int .i64 0,.int .i64 0,.int .i64 0,.int .i64 0] 109)) (.returned (⟨6,0,m.v,0⟩:WantS).val) w1:=⟨rfl,post1,post2⟩
 have HD:Hid (DonePost p m ⟨6,0,m.v,0⟩ (w.alloc (.cells #[.int .i64 0,.int .i64 0,.int .i64 0,.int .i64 0] 109)) (.returned (⟨6,0,m.v,0⟩:WantS).val) w1):=hd
 clear post1 post2 hd
 simp only [WantS.val]
 go_wp2
 exact bodyPost_ret (results_cell_row rfl _ _ _ _ _ _ _ rfl (heap_set (heap_set (heap_set (heap_set hg1)))) Tryz.underlying109 rfl infoWant) rfl (close4d hlt rfl HD.out rfl)
theorem got_calls (w:World) (p:Nat) (m:QS) (nx:Value) (v:Int) (h:QRep w p m nx) (hm:m.ok) (h1:1≤m.most) :
   Calls Tryz.prog 237 #[.pointer (some ⟨p,0,none⟩),.int .i64 v] w (StepPost p { m with v:=v } (fnV 246) (putS m.base (behindI m.f 1 m.most)) w):=by
 obtain ⟨⟨c0,c1,c2,c3,c4,c5,c6⟩,⟨f3,f4,f5,f6⟩,hlt⟩:=box7 h
 have HP:=kH h
 have HM:=kH hm
 obtain ⟨hb0,hb1,hm0,hm1⟩:=hm
 have HP2:Hid (QRep (w.setCell ⟨p,3,none⟩ (.int .i64 v)) p { m with v:=v } nx):=heap_set HP.out
 have HM2:Hid (QS.ok { m with v:=v }):=HM.out
 clear h
 go_enter Tryz.func237,Tryz.ntmps237
 go_wp2_with fail
 go_region_with (first | (go_at_call 235;refine (behind_calls _ _ _ _ h1 hm1 (by omega) (by omega)).mono ?_;rintro e w' ⟨rfl,q,rfl⟩) | (go_at_call 234;refine (write_calls _ p { m with v:=v } nx 0 _ 246 (qrep_drewN (kO HP2.out)) HM2.out (by omega)).mono ?_;rintro e w1 ⟨rfl,post1⟩;have hg1:=box_grown post1.1 (heap_new_drewN (n:=w.heap.size) (by simp)) (by omega);obtain ⟨⟨d0,d1,d2,d3⟩,⟨g0,g1,g2,g3⟩,hz⟩:=box4 hg1;simp only [WantS.val]))
 all_goals
   go_wp2
   refine bodyPost_ret (results_cell_row rfl _ _ _ _ _ _ _ rfl (heap_set (heap_set (heap_set (heap_set hg1)))) Tryz.underlying109 rfl infoWant) rfl ?_
   exact close4s (grown_set (grown_refl _ _) _) (by simpa using hlt) (by simp) (grown_trans (grown_drewN (grown_refl _ _) _) post1.1) post1.2 rfl
theorem tookLength_len (w:World) (p:Nat) (m:QS) (nx:Value) (v:Int) (h:QRep w p m nx) (hm:m.ok) (hc:m.call=5) :
   Calls Tryz.prog 223 #[.pointer (some ⟨p,0,none⟩),.int .i64 v] w (DonePost p { m with l:=v } ⟨6,0,v,0⟩ w):=by
 obtain ⟨⟨c0,c1,c2,c3,c4,c5,c6⟩,⟨f3,f4,f5,f6⟩,hlt⟩:=box7 h
 have HP:=kH h
 have HM:=kH hm
 obtain ⟨hb0,hb1,hm0,hm1⟩:=hm
 have HP2:Hid (QRep (w.setCell ⟨p,6,none⟩ (.int .i64 v)) p { m with l:=v } nx):=heap_set HP.out
 have HM2:Hid (QS.ok { m with l:=v }):=HM.out
 clear h
 rw [hc] at c2
 clear hc
 go_enter Tryz.func223,Tryz.ntmps223
 go_wp2_with fail
 refine (done_calls _ p { m with l:=v } nx v 0 (kO HP2.out)).mono ?_
 rintro e w1 ⟨rfl,post1,post2⟩
 have hg1:=box_grown post1 (heap_new (n:=w.heap.size) (by simp)) (by omega)
 obtain ⟨⟨d0,d1,d2,d3⟩,⟨g0,g1,g2,g3⟩,hz⟩:=box4 hg1
 have hd:DonePost p { m with l:=v } ⟨6,0,v,0⟩ ((w.setCell ⟨p,6,none⟩ (.int .i64 v)).alloc (.cells #[.int .i64 0,.int .i64 0,.int .i64 0,.int .i64 0] 109)) (.returned (⟨6,0,v,0⟩:WantS).val) w1:=⟨rfl,post1,post2⟩
 have HD:Hid (DonePost p { m with l:=v } ⟨6,0,v,0⟩ ((w.setCell ⟨p,6,none⟩ (.int .i64 v)).alloc (.cells #[.int .i64 0,.int .i64 0,.int .i64 0,.int .i64 0] 109)) (.returned (⟨6,0,v,0⟩:WantS).val) w1):=hd
 clear post1 post2 hd
 simp only [WantS.val]
 go_wp2
 exact bodyPost_ret (results_cell_row rfl _ _ _ _ _ _ _ rfl (heap_set (heap_set (heap_set (heap_set hg1)))) Tryz.underlying109 rfl infoWant) rfl (close4ds (grown_set (grown_refl _ _) _) (by simpa using hlt) (by simp) HD.out rfl)
theorem tookLength_full (w:World) (p:Nat) (m:QS) (nx:Value) (v:Int) (h:QRep w p m nx) (hm:m.ok) (hc:m.call=3) (hf:m.most≤u64 v) :
   Calls Tryz.prog 223 #[.pointer (some ⟨p,0,none⟩),.int .i64 v] w (DonePost p { m with l:=v } ⟨6,0,0,2⟩ w):=by
 obtain ⟨⟨c0,c1,c2,c3,c4,c5,c6⟩,⟨f3,f4,f5,f6⟩,hlt⟩:=box7 h
 have HP:=kH h
 have HM:=kH hm
 obtain ⟨hb0,hb1,hm0,hm1⟩:=hm
 have HP2:Hid (QRep (w.setCell ⟨p,6,none⟩ (.int .i64 v)) p { m with l:=v } nx):=heap_set HP.out
 have HM2:Hid (QS.ok { m with l:=v }):=HM.out
 clear h
 rw [hc] at c2
 rw [← u64_wrap] at hf
 clear hc
 go_enter Tryz.func223,Tryz.ntmps223
 go_wp2_with fail
 refine (done_calls _ p { m with l:=v } nx 0 2 (kO HP2.out)).mono ?_
 rintro e w1 ⟨rfl,post1,post2⟩
 have hg1:=box_grown post1 (heap_new (n:=w.heap.size) (by simp)) (by omega)
 obtain ⟨⟨d0,d1,d2,d3⟩,⟨g0,g1,g2,g3⟩,hz⟩:=box4 hg1
 have hd:DonePost p { m with l:=v } ⟨6,0,0,2⟩ ((w.setCell ⟨p,6,none⟩ (.int .i64 v)).alloc (.cells #[.int .i64 0,.int .i64 0,.int .i64 0,.int .i64 0] 109)) (.returned (⟨6,0,0,2⟩:WantS).val) w1:=⟨rfl,post1,post2⟩
 have HD:Hid (DonePost p { m with l:=v } ⟨6,0,0,2⟩ ((w.setCell ⟨p,6,none⟩ (.int .i64 v)).alloc (.cells #[.int .i64 0,.int .i64 0,.int .i64 0,.int .i64 0] 109)) (.returned (⟨6,0,0,2⟩:WantS).val) w1):=hd
 clear post1 post2 hd
 simp only [WantS.val]
 go_wp2
 exact bodyPost_ret (results_cell_row rfl _ _ _ _ _ _ _ rfl (heap_set (heap_set (heap_set (heap_set hg1)))) Tryz.underlying109 rfl infoWant) rfl (close4ds (grown_set (grown_refl _ _) _) (by simpa using hlt) (by simp) HD.out rfl)
theorem tookLength_put (w:World) (p:Nat) (m:QS) (nx:Value) (v:Int) (h:QRep w p m nx) (hm:m.ok) (hc:m.call=3) (hf:u64 v < m.most) (h1:1≤m.most) :
   Calls Tryz.prog 223 #[.pointer (some ⟨p,0,none⟩),.int .i64 v] w (StepPost p { m with l:=v } (fnV 236) (putS (m.base+(2+behindI m.f (u64 v) m.most)) m.v) w):=by
 obtain ⟨⟨c0,c1,c2,c3,c4,c5,c6⟩,⟨f3,f4,f5,f6⟩,hlt⟩:=box7 h
 have HP:=kH h
 have HM:=kH hm
 obtain ⟨hb0,hb1,hm0,hm1⟩:=hm
 have HP2:Hid (QRep (w.setCell ⟨p,6,none⟩ (.int .i64 v)) p { m with l:=v } nx):=heap_set HP.out
 have HM2:Hid (QS.ok { m with l:=v }):=HM.out
 clear h
 rw [hc] at c2
 have hub:=u64_bounds v
 have hbb:=behind_bounds m.f (u64 v) m.most h1
 rw [← u64_wrap] at hf hub hbb
 rw [← u64_wrap]
 have hne:w.heap.size≠p:=by omega
 have hcb:Hid (0≤2+behindI m.f (IntKind.u64.wrap v) m.most∧2+behindI m.f (IntKind.u64.wrap v) m.most≤100):=by constructor <;> omega
 have hwr:IntKind.i64.wrap (2+behindI m.f (IntKind.u64.wrap v) m.most)=2+behindI m.f (IntKind.u64.wrap v) m.most:=IntWalk.i64_in _ (by omega)
 clear hc hbb
 go_enter Tryz.func223,Tryz.ntmps223
 go_wp2_with fail
 go_region_with (first | (go_at_call 235;refine (behind_calls _ _ _ _ h1 hm1 hub.1 hub.2).mono ?_;rintro e w' ⟨rfl,q,rfl⟩) | (go_at_call 234;refine (write_calls _ p { m with l:=v } nx _ _ 236 (qrep_drewN (kO HP2.out)) HM2.out hcb.out).mono ?_;rintro e w1 ⟨rfl,post1⟩;have hg1:=box_grown post1.1 (heap_new_drewN (n:=w.heap.size) (by simp)) hne;obtain ⟨⟨d0,d1,d2,d3⟩,⟨g0,g1,g2,g3⟩,hz⟩:=box4 hg1;simp only [WantS.val]))
 all_goals
   go_wp2
   refine bodyPost_ret (results_cell_row rfl _ _ _ _ _ _ _ rfl (heap_set (heap_set (heap_set (heap_set hg1)))) Tryz.underlying109 rfl infoWant) rfl ?_
   exact close4s (grown_set (grown_refl _ _) _) (by simpa using hlt) (by simp) (grown_trans (grown_drewN (grown_refl _ _) _) post1.1) post1.2 rfl
theorem tookLength_zero (w:World) (p:Nat) (m:QS) (nx:Value) (v:Int) (h:QRep w p m nx) (hm:m.ok) (hc5:m.call≠5) (hc3:m.call≠3) (hz:v=0) :
   Calls Tryz.prog 223 #[.pointer (some ⟨p,0,none⟩),.int .i64 v] w (DonePost p { m with l:=v } ⟨6,0,0,1⟩ w):=by
 obtain ⟨⟨c0,c1,c2,c3,c4,c5,c6⟩,⟨f3,f4,f5,f6⟩,hlt⟩:=box7 h
 have HP:=kH h
 have HM:=kH hm
 obtain ⟨hb0,hb1,hm0,hm1⟩:=hm
 have HP2:Hid (QRep (w.setCell ⟨p,6,none⟩ (.int .i64 v)) p { m with l:=v } nx):=heap_set HP.out
 have HM2:Hid (QS.ok { m with l:=v }):=HM.out
 clear h
 have h5:(m.call == 5)=false:=by simpa using hc5
 have h3:(m.call == 3)=false:=by simpa using hc3
 subst hz
 clear hc5 hc3
 go_enter Tryz.func223,Tryz.ntmps223
 go_wp2_with fail
 refine (done_calls _ p { m with l:=0 } nx 0 1 (kO HP2.out)).mono ?_
 rintro e w1 ⟨rfl,post1,post2⟩
 have hg1:=box_grown post1 (heap_new (n:=w.heap.size) (by simp)) (by omega)
 obtain ⟨⟨d0,d1,d2,d3⟩,⟨g0,g1,g2,g3⟩,hz⟩:=box4 hg1
 have hd:DonePost p { m with l:=0 } ⟨6,0,0,1⟩ ((w.setCell ⟨p,6,none⟩ (.int .i64 0)).alloc (.cells #[.int .i64 0,.int .i64 0,.int .i64 0,.int .i64 0] 109)) (.returned (⟨6,0,0,1⟩:WantS).val) w1:=⟨rfl,post1,post2⟩
 have HD:Hid (DonePost p { m with l:=0 } ⟨6,0,0,1⟩ ((w.setCell ⟨p,6,none⟩ (.int .i64 0)).alloc (.cells #[.int .i64 0,.int .i64 0,.int .i64 0,.int .i64 0] 109)) (.returned (⟨6,0,0,1⟩:WantS).val) w1):=hd
 clear post1 post2 hd
 simp only [WantS.val]
 go_wp2
 exact bodyPost_ret (results_cell_row rfl _ _ _ _ _ _ _ rfl (heap_set (heap_set (heap_set (heap_set hg1)))) Tryz.underlying109 rfl infoWant) rfl (close4ds (grown_set (grown_refl _ _) _) (by simpa using hlt) (by simp) HD.out rfl)
theorem tookLength_none (w:World) (p:Nat) (m:QS) (nx:Value) (v:Int) (h:QRep w p m nx) (hm:m.ok) (hc5:m.call≠5) (hc3:m.call≠3) (hz:v≠0) (hn:m.most=0) :
   Calls Tryz.prog 223 #[.pointer (some ⟨p,0,none⟩),.int .i64 v] w (DonePost p { m with l:=v } ⟨6,0,0,1⟩ w):=by
 obtain ⟨⟨c0,c1,c2,c3,c4,c5,c6⟩,⟨f3,f4,f5,f6⟩,hlt⟩:=box7 h
 have HP:=kH h
 have HM:=kH hm
 obtain ⟨hb0,hb1,hm0,hm1⟩:=hm
 have HP2:Hid (QRep (w.setCell ⟨p,6,none⟩ (.int .i64 v)) p { m with l:=v } nx):=heap_set HP.out
 have HM2:Hid (QS.ok { m with l:=v }):=HM.out
 clear h
 have h5:(m.call == 5)=false:=by simpa using hc5
 have h3:(m.call == 3)=false:=by simpa using hc3
 have hz':(v == 0)=false:=by simpa using hz
 rw [hn] at c1
 clear hc5 hc3 hz hn
 go_enter Tryz.func223,Tryz.ntmps223
 go_wp2_with fail
 refine (done_calls _ p { m with l:=v } nx 0 1 (kO HP2.out)).mono ?_
 rintro e w1 ⟨rfl,post1,post2⟩
 have hg1:=box_grown post1 (heap_new (n:=w.heap.size) (by simp)) (by omega)
 obtain ⟨⟨d0,d1,d2,d3⟩,⟨g0,g1,g2,g3⟩,hz⟩:=box4 hg1
 have hd:DonePost p { m with l:=v } ⟨6,0,0,1⟩ ((w.setCell ⟨p,6,none⟩ (.int .i64 v)).alloc (.cells #[.int .i64 0,.int .i64 0,.int .i64 0,.int .i64 0] 109)) (.returned (⟨6,0,0,1⟩:WantS).val) w1:=⟨rfl,post1,post2⟩
 have HD:Hid (DonePost p { m with l:=v } ⟨6,0,0,1⟩ ((w.setCell ⟨p,6,none⟩ (.int .i64 v)).alloc (.cells #[.int .i64 0,.int .i64 0,.int .i64 0,.int .i64 0] 109)) (.returned (⟨6,0,0,1⟩:WantS).val) w1):=hd
 clear post1 post2 hd
 simp only [WantS.val]
 go_wp2
 exact bodyPost_ret (results_cell_row rfl _ _ _ _ _ _ _ rfl (heap_set (heap_set (heap_set (heap_set hg1)))) Tryz.underlying109 rfl infoWant) rfl (close4ds (grown_set (grown_refl _ _) _) (by simpa using hlt) (by simp) HD.out rfl)
theorem tookLength_get (w:World) (p:Nat) (m:QS) (nx:Value) (v:Int) (h:QRep w p m nx) (hm:m.ok) (hc5:m.call≠5) (hc3:m.call≠3) (hz:v≠0) (h1:1≤m.most) :
   Calls Tryz.prog 223 #[.pointer (some ⟨p,0,none⟩),.int .i64 v] w (StepPost p { m with l:=v } (fnV 237) (readS (m.base+(2+behindI m.f 0 m.most))) w):=by
 obtain ⟨⟨c0,c1,c2,c3,c4,c5,c6⟩,⟨f3,f4,f5,f6⟩,hlt⟩:=box7 h
 have HP:=kH h
 have HM:=kH hm
 obtain ⟨hb0,hb1,hm0,hm1⟩:=hm
 have HP2:Hid (QRep (w.setCell ⟨p,6,none⟩ (.int .i64 v)) p { m with l:=v } nx):=heap_set HP.out
 have HM2:Hid (QS.ok { m with l:=v }):=HM.out
 clear h
 have h5:(m.call == 5)=false:=by simpa using hc5
 have h3:(m.call == 3)=false:=by simpa using hc3
 have hz':(v == 0)=false:=by simpa using hz
 have hn':(m.most == 0)=false:=by simp;omega
 have hbb:=behind_bounds m.f 0 m.most h1
 have hne:w.heap.size≠p:=by omega
 have hcb:Hid (0≤2+behindI m.f 0 m.most∧2+behindI m.f 0 m.most≤100):=by constructor <;> omega
 have hwr:IntKind.i64.wrap (2+behindI m.f 0 m.most)=2+behindI m.f 0 m.most:=IntWalk.i64_in _ (by omega)
 clear hc5 hc3 hz hbb
 go_enter Tryz.func223,Tryz.ntmps223
 go_wp2_with fail
 go_region_with (first | (go_at_call 235;refine (behind_calls _ _ _ _ h1 hm1 (Int.le_refl 0) (by decide)).mono ?_;rintro e w' ⟨rfl,q,rfl⟩) | (go_at_call 181;refine (read_calls _ p { m with l:=v } nx _ 237 (qrep_drewN (kO HP2.out)) HM2.out hcb.out).mono ?_;rintro e w1 ⟨rfl,post1⟩;have hg1:=box_grown post1.1 (heap_new_drewN (n:=w.heap.size) (by simp)) hne;obtain ⟨⟨d0,d1,d2,d3⟩,⟨g0,g1,g2,g3⟩,hz⟩:=box4 hg1;simp only [WantS.val]))
 all_goals
   go_wp2
   refine bodyPost_ret (results_cell_row rfl _ _ _ _ _ _ _ rfl (heap_set (heap_set (heap_set (heap_set hg1)))) Tryz.underlying109 rfl infoWant) rfl ?_
   exact close4s (grown_set (grown_refl _ _) _) (by simpa using hlt) (by simp) (grown_trans (grown_drewN (grown_refl _ _) _) post1.1) post1.2 rfl
end Que
end Go.Proofs.YtgfogfciobmmpaaGreatDoor
