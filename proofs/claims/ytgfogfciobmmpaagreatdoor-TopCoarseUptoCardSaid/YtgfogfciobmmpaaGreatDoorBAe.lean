/- A part of the proof of a law of carouseltop: Api Beg Chk. -/
import Derived.Test.YtgfogfciobmmpaaGreatDoorBAc
import Derived.Test.YtgfogfciobmmpaaGreatDoorBAd
import Derived.Deep.RegionHeld3
import Derived.BigRegion
import Derived.Deep.LoopGhost
set_option linter.unusedSimpArgs false
set_option linter.unusedVariables false
set_option maxRecDepth 100000
set_option maxHeartbeats 8000000
namespace Go.Proofs.YtgfogfciobmmpaaGreatDoor
open Go.RowKit
section
def fq(p:Nat)(m:au)(L:Nat)(F:List Nat)(r:Value)(w:World)(e:Ending)(w':World):Prop :=
 e=.returned r/\∃ F',dk w' p m (L+1) F'/\aQ F w w'/\dz w.heap.size F F'
theorem jU{w w':World}{p hb sb cb:Nat}{lv:Value}{m:au}{L:Nat}{F:List Nat}{r:Value}{e:Ending}(hF:F=p::hb::sb::cb::bR lv)
  (h:e=.returned r/\∃ lv',dW w' p hb sb cb lv' m (L+1)/\aQ (p::hb::sb::cb::bR lv) w w'/\dz w.heap.size (bR lv) (bR lv')):fq p m L F r w e w':=by
 obtain⟨h1,lv',h2,h3,h4⟩:=h
 subst hF
 refine⟨h1,_,⟨hb,sb,cb,lv',rfl,h2⟩,h3,fun x hx=>?_⟩
 simp only[List.mem_cons]at hx ⊢
 rcases hx with hx|hx|hx|hx|hx
 ·exact .inl (.inl hx)
 ·exact .inl (.inr (.inl hx))
 ·exact .inl (.inr (.inr (.inl hx)))
 ·exact .inl (.inr (.inr (.inr (.inl hx))))
 ·rcases h4 x hx with h|h
  ·exact .inl (.inr (.inr (.inr (.inr h))))
  ·exact .inr h
theorem qk{m:au}(h:aY m)(s:Int):∃ i:Nat,bI s m.ring=(i:Int)/\i<m.heads.length:=by
 have hr:=h.ring
 have h1:=Int.emod_nonneg s (show(m.heads.length:Int)≠0 by omega)
 have h2:=Int.emod_lt_of_pos s (show 0<(m.heads.length:Int) by omega)
 obtain⟨i,hi⟩:=Int.eq_ofNat_of_zero_le h1
 exact⟨i,hi,by omega⟩
variable {w:World}{p:Nat}{m:au}{L:Nat}{F:List Nat}
theorem nL(h:dk w p m L F):Calls Tryz.prog 39 #[ptr p] w (fun e w'=>e=.returned (.tuple #[.int .i64 m.cells.length,.int .i64 m.ring])/\Below w.heap.size w w'):=by
 obtain⟨hb,sb,cb,lv,rfl,h⟩:=h
 exact wQ w p hb sb cb lv m L h
theorem iS(th:Int)(h:dk w p m L F)(hL:L<=1073741824):Calls Tryz.prog 215 #[ptr p,.int .i64 th,cH 1 0 0] w (fq p m L F (.tuple #[.int .i64 m.newest,.int .i64 0]) w):=by
 obtain⟨hb,sb,cb,lv,rfl,h⟩:=h
 have hn:=(qm h (v:=0) (by unfold aI;omega)).nor
 exact(pU w p hb sb cb lv m L ⟨p,0,none⟩ m.newest th 1 0 0 h (fun W hW=>kg W p hb sb cb lv m L hW) h.box.1 (af h.blk) hn (by simp) hL).mono fun e w' hh=>jU rfl hh
theorem oM(th s:Int)(h:dk w p m L F)(hL:L<=1073741824):Calls Tryz.prog 215 #[ptr p,.int .i64 th,cH 2 (bI s m.ring) 0] w (fq p m L F (.tuple #[.int .i64 (m.head s),.int .i64 0]) w):=by
 obtain⟨hb,sb,cb,lv,rfl,h⟩:=h
 obtain⟨i,hi,hil⟩:=qk h.ok s
 have hS:=u6 h s (v:=0) (by unfold aI;omega) i (by rw[hi];simp) hil
 have hh:m.head s=m.heads.getD i 0:=by unfold au.head;rw[hi];simp
 rw[hh,hi]
 exact(pU w p hb sb cb lv m L ⟨hb,i,none⟩ (m.heads.getD i 0) th 2 i 0 h (fun W hW=>rZ W p hb sb cb lv m L i hW hil) ((cell_of_row w hb _ _ _ _ h.heads).trans (ej _ _ hil)) (af h.heads) hS.nor hS.nlog hL).mono fun e w' hh=>jU rfl hh
theorem zr{m:au}(h:aY m)(s j:Int)(hj:0<=j/\j<8):∃ i k:Nat,bI s m.ring=(i:Int)/\j=(k:Int)/\i<m.heads.length/\k<8/\(bI s m.ring*8+j).toNat=i*8+k/\i*8+k<m.sigs.length:=by
 obtain⟨i,hi,hil⟩:=qk h s
 obtain⟨k,hk⟩:=Int.eq_ofNat_of_zero_le hj.1
 have hs:=h.sigs
 exact⟨i,k,hi,hk,hil,by omega,by rw[hi,hk];omega,by omega⟩
theorem wV(th s j:Int)(hj:0<=j/\j<8)(h:dk w p m L F)(hL:L<=1073741824):Calls Tryz.prog 215 #[ptr p,.int .i64 th,cH 3 (bI s m.ring) j] w (fq p m L F (.tuple #[.int .i64 (m.sig s j),.int .i64 0]) w):=by
 obtain⟨hb,sb,cb,lv,rfl,h⟩:=h
 obtain⟨i,k,hi,hk,hil,hkl,hn,hnl⟩:=zr h.ok s j hj
 have hS:=zs h s j (v:=0) (by unfold aI;omega) (i*8+k) hn hnl
 have hh:m.sig s j=m.sigs.getD (i*8+k) 0:=by unfold au.sig;rw[hn]
 rw[hh,hi,hk]
 exact(pU w p hb sb cb lv m L ⟨sb,i*8+k,none⟩ (m.sigs.getD (i*8+k) 0) th 3 i k h (fun W hW=>uA W p hb sb cb lv m L i k hW hil hkl) ((cell_of_row w sb _ _ _ _ h.sigs).trans (ej _ _ hnl)) (af h.sigs) hS.nor hS.nlog hL).mono fun e w' hh=>jU rfl hh
theorem s5(th c:Int)(hc:0<=c/\c<m.cells.length)(h:dk w p m L F)(hL:L<=1073741824):Calls Tryz.prog 215 #[ptr p,.int .i64 th,cH 4 c 0] w (fq p m L F (.tuple #[.int .i64 (m.cells.getD c.toNat 0),.int .i64 0]) w):=by
 obtain⟨hb,sb,cb,lv,rfl,h⟩:=h
 obtain⟨i,rfl⟩:=Int.eq_ofNat_of_zero_le hc.1
 have hil:i<m.cells.length:=by omega
 have hS:=u7 h (i:Int) (v:=0) (by unfold aI;omega) i (by simp) hil
 rw[Int.toNat_natCast]
 exact(pU w p hb sb cb lv m L ⟨cb,i,none⟩ (m.cells.getD i 0) th 4 i 0 h (fun W hW=>sa W p hb sb cb lv m L i hW hil) ((cell_of_row w cb _ _ _ _ h.cells).trans (ej _ _ hil)) (af h.cells) hS.nor hS.nlog hL).mono fun e w' hh=>jU rfl hh
theorem yU(th s v:Int)(hv:aI v)(h:dk w p m L F)(hL:L<=1073741824):Calls Tryz.prog 175 #[ptr p,.int .i64 th,cH 2 (bI s m.ring) 0,.int .i64 v] w (fq p (m.setHead s v) L F (.int .i64 0) w):=by
 obtain⟨hb,sb,cb,lv,rfl,h⟩:=h
 obtain⟨i,hi,hil⟩:=qk h.ok s
 have hS:=fun W (hW:dW W p hb sb cb lv m L)=>u6 hW s hv i (by rw[hi];simp) hil
 rw[hi]
 exact(ro w p hb sb cb lv m L ⟨hb,i,none⟩ v th 2 i 0 _ h (fun W hW=>rZ W p hb sb cb lv m L i hW hil) hS hL).mono fun e w' hh=>jU rfl hh
theorem BC(th s j v:Int)(hj:0<=j/\j<8)(hv:aI v)(h:dk w p m L F)(hL:L<=1073741824):Calls Tryz.prog 175 #[ptr p,.int .i64 th,cH 3 (bI s m.ring) j,.int .i64 v] w (fq p (m.setSig s j v) L F (.int .i64 0) w):=by
 obtain⟨hb,sb,cb,lv,rfl,h⟩:=h
 obtain⟨i,k,hi,hk,hil,hkl,hn,hnl⟩:=zr h.ok s j hj
 have hS:=fun W (hW:dW W p hb sb cb lv m L)=>zs hW s j hv (i*8+k) hn hnl
 rw[hi]
 subst hk
 exact(ro w p hb sb cb lv m L ⟨sb,i*8+k,none⟩ v th 3 i k _ h (fun W hW=>uA W p hb sb cb lv m L i k hW hil hkl) hS hL).mono fun e w' hh=>jU rfl hh
theorem yV(th c v:Int)(hc:0<=c/\c<m.cells.length)(hv:aI v)(h:dk w p m L F)(hL:L<=1073741824):Calls Tryz.prog 175 #[ptr p,.int .i64 th,cH 4 c 0,.int .i64 v] w (fq p (m.setCell c v) L F (.int .i64 0) w):=by
 obtain⟨hb,sb,cb,lv,rfl,h⟩:=h
 obtain⟨i,rfl⟩:=Int.eq_ofNat_of_zero_le hc.1
 have hil:i<m.cells.length:=by omega
 have hS:=fun W (hW:dW W p hb sb cb lv m L)=>u7 hW (i:Int) hv i (by simp) hil
 exact(ro w p hb sb cb lv m L ⟨cb,i,none⟩ v th 4 i 0 _ h (fun W hW=>sa W p hb sb cb lv m L i hW hil) hS hL).mono fun e w' hh=>jU rfl hh
theorem wN(th old v:Int)(hv:aI v)(h:dk w p m L F)(hL:L<=1073741824):Calls Tryz.prog 282 #[ptr p,.int .i64 th,cH 1 0 0,.int .i64 old,.int .i64 v] w
  (fq p (if m.newest=old then {m with newest:=v} else m) L F (.tuple #[.bool (decide (m.newest=old)),.int .i64 0]) w):=by
 obtain⟨hb,sb,cb,lv,rfl,h⟩:=h
 have hS:=fun W (hW:dW W p hb sb cb lv m L)=>qm hW hv
 by_cases e:m.newest=old
 ·rw[if_pos e,decide_eq_true e]
  exact(DQ w p hb sb cb lv m L ⟨p,0,none⟩ v th 1 0 0 old _ h (fun W hW=>kg W p hb sb cb lv m L hW) (by rw[<-e];exact h.box.1) hS hL).mono fun e w' hh=>jU rfl hh
 ·rw[if_neg e,decide_eq_false e]
  exact(Swap_no w p hb sb cb lv m L ⟨p,0,none⟩ v th 1 0 0 old m.newest h (fun W hW=>kg W p hb sb cb lv m L hW) (by simpa using e) h.box.1 (af h.blk) (hS w h).nor (by simp) hL).mono fun e w' hh=>jU rfl hh
end
def aM.val(a:aM):Value:=.agg #[.int .i64 a.kind,.int .i64 a.err,.int .i64 a.value,.bool a.access]
theorem cK:(Tryz.prog.info? 35).map (·.size)=some 4:=by kernel_rfl
def yI(b:nT):Array Value:=#[.int .i64 b.size,.int .i64 b.state,.int .i64 b.seen,.int .i64 b.at_]
def kW(w:World)(x:Nat)(b:nT):Prop:=w.heap[x]?=some (.cells (yI b) 204 (0,0))
theorem kW.box{w:World}{x:Nat}{b:nT}(h:kW w x b) :
  (w.cell? ⟨x,0,none⟩=some (.int .i64 b.size)/\w.cell? ⟨x,1,none⟩=some (.int .i64 b.state)/\w.cell? ⟨x,2,none⟩=some (.int .i64 b.seen)/\w.cell? ⟨x,3,none⟩=some (.int .i64 b.at_)) /\
  (w.frozen? ⟨x,1,none⟩=false/\w.frozen? ⟨x,2,none⟩=false/\w.frozen? ⟨x,3,none⟩=false)/\x<w.heap.size:=by
 have hc:=fun j=>cell_of_row w x j _ _ _ h
 have hf:=fun j=>frozen_of_row w x j _ _ h
 exact⟨⟨by simpa[yI]using hc 0,by simpa[yI]using hc 1,by simpa[yI]using hc 2,by simpa[yI]using hc 3⟩,⟨hf 1,hf 2,hf 3⟩,af h⟩
def gC(x p:Nat)(L:Nat)(F:List Nat)(R:World->Prop)(a:aM)(m:au)(w:World)(e:Ending)(w':World):Prop :=
 e=.returned a.val/\R w'/\∃ F',dk w' p m (L+1) F'/\aQ (x::F) w w'/\dz w.heap.size F F'
theorem qh{w w2 w3:World}{x p L g:Nat}{F F2:List Nat}{R:World->Prop}{a:aM}{m:au}{e:Ending}(he:e=.returned a.val)(hk:aQ (x::F) w w2)(hr:dk w2 p m (L+1) F2)(hf:dz w.heap.size F F2)(hx:x∉F2)(hg:w.heap.size<=g)(hg2:g∉F2)
  (h3:aQ [x,g] w2 w3) (hR:R w3):gC x p L F R a m w e w3 :=
 ⟨he,hR,F2,hr.kept h3 (fun y hy=>by
  simp only[List.mem_cons,List.not_mem_nil,or_false,not_or]
  exact⟨fun e=>hx (e▸hy),fun e=>hg2 (e▸hy)⟩),hk.trans h3 (fun y hy=>by
   simp only[List.mem_cons,List.not_mem_nil,or_false]at hy
   rcases hy with rfl|rfl
   ·exact .inl List.mem_cons_self
   ·exact .inr hg),hf⟩
theorem dU{n x:Nat}{F F2:List Nat}(hf:dz n F F2)(hx:x∉F)(hl:x<n):x∉F2:=fun h=>by
 rcases hf x h with h1|h1
 ·exact hx h1
 ·omega
theorem nu(w:World)(x:Nat)(b:nT)(s:Int)(h:kW w x b) :
  Calls Tryz.prog 270 #[ptr x,.int .i64 s] w (fun e w'=>e=.returned (aW 0).val/\kW w' x {b with state:=2,at_:=s}/\aQ [x] w w'):=by
 obtain⟨⟨c0,c1,c2,c3⟩,⟨f1,f2,f3⟩,hlt⟩:=h.box
 have H:=kH h
 clear h
 unfold ptr
 go_enter Tryz.func270,Tryz.ntmps270
 go_wp2
 refine bodyPost_ret (results_cell_row rfl _ _ _ _ _ _ _ rfl (ar (by simp)) Tryz.underlying35 rfl cK) rfl ⟨rfl,bS (ab (ab H.out)),(((aQ.refl _ _).set (.inl (by simp)) _).set (.inl (by simp)) _).alloc _⟩
theorem cw{w:World}{g:Nat}{a b c d:Value}{t:TypeId}(h:w.heap[g]?=some (.cells #[a,b,c,d] t (0,0))) :
  (w.cell? ⟨g,0,none⟩=some a/\w.cell? ⟨g,1,none⟩=some b/\w.cell? ⟨g,2,none⟩=some c/\w.cell? ⟨g,3,none⟩=some d) /\
  (w.frozen? ⟨g,0,none⟩=false/\w.frozen? ⟨g,1,none⟩=false/\w.frozen? ⟨g,2,none⟩=false/\w.frozen? ⟨g,3,none⟩=false):=⟨(bB h).1,(bB h).2.1⟩
def aB:Obj:=.cells #[.int .i64 0,.int .i64 0,.int .i64 0,.bool false] 35 (0,0)
theorem DU(w:World)(x p:Nat)(th:Int)(b:nT)(m:au)(L:Nat)(F:List Nat)(h:kW w x b)(hr:dk w p m L F)(hx:x∉F)(hok:wZ b m.ring)(hL:L<=1073741824) :
  Calls Tryz.prog 269 #[ptr x,ptr p,.int .i64 th] w (gC x p L F (fun w'=>kW w' x (bU m b).2) (bU m b).1 m w):=by
 obtain⟨size,state,seen,at_⟩:=b
 obtain⟨k1,k2,k3,k4,k5⟩:=hok
 simp only at k1 k2 k3 k4 k5
 subst k1
 obtain⟨⟨c0,c1,c2,c3⟩,⟨f1,f2,f3⟩,hlt⟩:=h.box
 simp only at c0 c1 c2 c3
 have hm:=hr.ok
 have hn:=hm.new
 have H:=kH h
 have HR:=kH hr
 have HX:=kH hx
 have hFl:=hr.lt
 have HFL:=kH hFl
 unfold aI at k3 k4 hn
 have hrg:=hm.ring
 have hrg1:1<=m.ring/\m.ring<=16:=by unfold au.ring;omega
 have HM:=kH hm
 clear h hr hx hFl hm hrg
 rcases k2 with rfl|rfl
 ·have hstep:bU m ⟨m.ring,0,seen,at_⟩=if m.newest<1 then(aW 0,⟨m.ring,2,m.newest,0⟩)else(moved,⟨m.ring,1,m.newest,m.newest⟩):=rfl
  rw[hstep]
  clear hstep k5
  unfold ptr
  go_enter Tryz.func269,Tryz.ntmps269
  go_wp2_with fail
  refine(nL (HR.out.kept ((aQ.refl [] w).alloc _) (by simp))).mono ?_
  rintro e w1 ⟨rfl,hb1⟩
  have hz1:=hb1.size
  simp only[World.size_alloc]at hz1
  have hbel:Below w.heap.size w w1:=(ai w aB).trans (hb1.mono (by simp))
  have hans:=(hb1.block w.heap.size (by simp)).trans (ar rfl)
  have h1:kW w1 x ⟨m.ring,0,seen,at_⟩:=(hbel.block x hlt).trans H.out
  obtain⟨⟨d0,d1,d2,d3⟩,⟨i1,i2,i3⟩,hlt1⟩:=h1.box
  simp only at d0 d1 d2 d3
  have H1:=kH h1
  have HANS:=kH hans
  have HBEL:=kH hbel
  have HR1:=kH (HR.out.kept (aQ.of_below hbel []) (by simp))
  have hxF:=HX.out
  clear c0 c1 c2 c3 f1 f2 f3 h1 hans hbel hb1
  go_wp2_with fail
  refine(iS th HR1.out hL).mono ?_
  rintro e2 w2 ⟨rfl,F2,hr2,hk2,hf2⟩
  have hg2F:w.heap.size∉F2:=dU hf2 (fun h=>by have:=HFL.out _ h;omega) (by omega)
  have hx2F:x∉F2:=dU hf2 hxF hlt1
  have hz2:w1.heap.size<=w2.heap.size:=hk2.size
  have h2:kW w2 x ⟨m.ring,0,seen,at_⟩:=hk2.heap H1.out hxF
  have hans2:=hk2.heap HANS.out (fun h=>by have:=HFL.out _ h;omega)
  obtain⟨⟨c0,c1,c2,c3⟩,⟨f1,f2,f3⟩,hlt2⟩:=h2.box
  simp only at c0 c1 c2 c3
  obtain⟨⟨a0,a1,a2,a3⟩,⟨g0,g1,g2,g3⟩⟩:=cw hans2
  have hK02:aQ (x::F) w w2:=(aQ.of_below HBEL.out _).trans hk2 (fun y hy=>.inl (List.mem_cons_of_mem _ hy))
  have hF02:dz w.heap.size F F2:=fun y hy=>(hf2 y hy).elim .inl (fun h=>.inr (by omega))
  have FIN:=kH (fun(a:aM) (R:World->Prop) (e:Ending) (w3:World) (he:e=.returned a.val) (h3:aQ [x,w.heap.size] w2 w3) (hR:R w3)=>qh (g:=w.heap.size) he hK02 hr2 hF02 hx2F (Nat.le_refl _) hg2F h3 hR)
  have H2:=kH h2
  have HANS2:=kH hans2
  have hxs:x≠w.heap.size:=by omega
  clear d0 d1 d2 d3 i1 i2 i3 h2 hans2 hK02 hF02 hr2 hk2 hf2 hg2F
  by_cases hnew:m.newest<1
  ·have HN:=kH hnew
   go_wp2_with fail
   refine Calls.mono (nu (w2.setCell ⟨x,2,none⟩ (.int .i64 m.newest)) x ⟨m.ring,0,m.newest,at_⟩ 0 (ab (i:=2) (v:=.int .i64 m.newest) H2.out)) ?_
   rintro e w3 ⟨rfl,h3,hk3⟩
   have hans3:=hk3.heap (al (q:=⟨x,2,none⟩) (v:=.int .i64 m.newest) HANS2.out (by simp;omega)) (by simp;omega)
   obtain⟨⟨b0,b1,b2,b3⟩,⟨j0,j1,j2,j3⟩⟩:=cw hans3
   have H3:=kH h3
   have HANS3:=kH hans3
   have HK3:=kH (((aQ.refl [x] w2).set (p:=⟨x,2,none⟩) (.inl (by simp)) (.int .i64 m.newest)).then hk3)
   simp only[aM.val,aW]
   clear h3 hans3 hk3
   go_wp2
   try rw[if_pos HN.out]
   refine bodyPost_ret (results_cell_row rfl _ _ _ _ _ _ _ rfl (ab (ab (ab (ab HANS3.out)))) Tryz.underlying35 rfl cK) rfl (FIN.out _ _ _ _ rfl ?_ ?_)
   ·exact((((HK3.out.mono (fun y hy=>.inl (by simp at hy;simp[hy]))).set (p:=⟨w.heap.size,0,none⟩) (.inl (by simp)) _).set (p:=⟨w.heap.size,1,none⟩) (.inl (by simp)) _).set (p:=⟨w.heap.size,2,none⟩) (.inl (by simp)) _).set (p:=⟨w.heap.size,3,none⟩) (.inl (by simp)) _
   ·exact al (al (al (al H3.out (by simp;omega)) (by simp;omega)) (by simp;omega)) (by simp;omega)
  ·have HN:=kH hnew
   have h3:=ab (i:=3) (v:=.int .i64 m.newest) (ab (i:=1) (v:=.int .i64 1) (ab (i:=2) (v:=.int .i64 m.newest) H2.out))
   have H3:=kH h3
   have HANS3:=kH (al (q:=⟨x,3,none⟩) (v:=.int .i64 m.newest) (al (q:=⟨x,1,none⟩) (v:=.int .i64 1) (al (q:=⟨x,2,none⟩) (v:=.int .i64 m.newest) HANS2.out (by simp;omega)) (by simp;omega)) (by simp;omega))
   clear h3
   go_wp2
   try rw[if_neg HN.out]
   refine bodyPost_ret (results_cell_row rfl _ _ _ _ _ _ _ rfl (ab (ab (ab (ab HANS3.out)))) Tryz.underlying35 rfl cK) rfl (FIN.out _ _ _ _ rfl ?_ ?_)
   ·exact((((((((aQ.refl [x,w.heap.size] w2).set (p:=⟨x,2,none⟩) (.inl (by simp)) _).set (p:=⟨x,1,none⟩) (.inl (by simp)) _).set (p:=⟨x,3,none⟩) (.inl (by simp)) _).set (p:=⟨w.heap.size,0,none⟩) (.inl (by simp)) _).set (p:=⟨w.heap.size,1,none⟩) (.inl (by simp)) _).set (p:=⟨w.heap.size,2,none⟩) (.inl (by simp)) _).set (p:=⟨w.heap.size,3,none⟩) (.inl (by simp)) _)
   ·exact al (al (al (al H3.out (by simp;omega)) (by simp;omega)) (by simp;omega)) (by simp;omega)
 ·obtain⟨k6,k7⟩:=k5 rfl
  have hstep:bU m ⟨m.ring,1,seen,at_⟩=if dq (m.head at_) at_=true then(aW 0,⟨m.ring,2,seen,at_⟩)else if at_-1<1\/at_-1=seen-m.ring then(aW 0,⟨m.ring,2,seen,at_-1⟩)else(moved,⟨m.ring,1,seen,at_-1⟩):=rfl
  rw[hstep]
  have HS:=kH (iv at_ m.ring (by omega) (by omega))
  clear hstep k5
  unfold ptr
  go_enter Tryz.func269,Tryz.ntmps269
  go_wp2_with fail
  refine(nL (HR.out.kept ((aQ.refl [] w).alloc _) (by simp))).mono ?_
  rintro e w1 ⟨rfl,hb1⟩
  have hz1:=hb1.size
  simp only[World.size_alloc]at hz1
  have hbel:Below w.heap.size w w1:=(ai w aB).trans (hb1.mono (by simp))
  have hans:=(hb1.block w.heap.size (by simp)).trans (ar rfl)
  obtain⟨⟨a0,a1,a2,a3⟩,⟨g0,g1,g2,g3⟩⟩:=cw hans
  have h1:kW w1 x ⟨m.ring,1,seen,at_⟩:=(hbel.block x hlt).trans H.out
  obtain⟨⟨d0,d1,d2,d3⟩,⟨i1,i2,i3⟩,hlt1⟩:=h1.box
  simp only at d0 d1 d2 d3
  have H1:=kH h1
  have HANS:=kH hans
  have HBEL:=kH hbel
  have HR1:=kH (HR.out.kept (aQ.of_below hbel []) (by simp))
  clear c0 c1 c2 c3 f1 f2 f3 h1 hans hbel hb1
  go_wp2_with fail
  have HL:=kH (fun q=>oM (w:=w1.drewN q) (m:=m) th at_ (HR1.out.kept ((aQ.refl [] w1).drewN q) (by simp)) hL)
  have hxF:=HX.out
  go_region_held3 (fun w'=>w'.cell? ⟨x,0,none⟩=some (.int .i64 m.ring)/\w'.cell? ⟨x,3,none⟩=some (.int .i64 at_)) (go_keep) (first|(go_at_call 216;refine(HS.out _).mono ?_;rintro e w' ⟨rfl,rfl⟩)|(go_at_call 215;refine(HL.out _).mono ?_;rintro e2 w2 ⟨rfl,F2,hr2,hk2,hf2⟩;have k0:=hk2.cell (p:=⟨x,0,none⟩) hlt1 hxF;have k3:=hk2.cell (p:=⟨x,3,none⟩) hlt1 hxF;have HR2:=kH hr2;have HK2:=kH hk2;have HF2:=kH hf2))
  have hg2F:w.heap.size∉F2:=dU HF2.out (fun h=>by have:=HFL.out _ h;omega) (by show _<w1.heap.size;omega)
  have hx2F:x∉F2:=dU HF2.out hxF hlt1
  have hz2:w1.heap.size<=w2.heap.size:=HK2.out.size
  have h2:kW w2 x ⟨m.ring,1,seen,at_⟩:=HK2.out.heap (show(w1.drewN _).heap[x]?=_ from H1.out) hxF
  have hans2:=HK2.out.heap (show(w1.drewN _).heap[w.heap.size]?=_ from HANS.out) (fun h=>by have:=HFL.out _ h;omega)
  obtain⟨⟨c0,c1,c2,c3⟩,⟨f1,f2,f3⟩,hlt2⟩:=h2.box
  simp only at c0 c1 c2 c3
  obtain⟨⟨a0,a1,a2,a3⟩,⟨g0,g1,g2,g3⟩⟩:=cw hans2
  have hK02:aQ (x::F) w w2:=((aQ.of_below HBEL.out _).drewN _).trans HK2.out (fun y hy=>.inl (List.mem_cons_of_mem _ hy))
  have hF02:dz w.heap.size F F2:=fun y hy=>(HF2.out y hy).elim .inl (fun h=>.inr (by have:w1.heap.size<=y:=h;omega))
  have FIN:=kH (fun(a:aM) (R:World->Prop) (e:Ending) (w3:World) (he:e=.returned a.val) (h3:aQ [x,w.heap.size] w2 w3) (hR:R w3)=>qh (g:=w.heap.size) he hK02 HR2.out hF02 hx2F (Nat.le_refl _) hg2F h3 hR)
  have H2:=kH h2
  have HANS2:=kH hans2
  have HO:=kH (fun W=>gm (m.head at_) at_ W)
  clear k0 k3 d0 d1 d2 d3 i1 i2 i3 h2 hans2 hK02 hF02 hr2 hk2 hf2 hg2F
  go_wp2_with fail
  refine(HO.out _).mono ?_
  rintro e w3 ⟨rfl,rfl⟩
  by_cases hov:dq (m.head at_) at_=true
  ·rw[hov]
   have HOV:=kH hov
   clear hov
   go_wp2_with fail
   refine(nu w2 x _ at_ H2.out).mono ?_
   rintro e w3 ⟨rfl,h3,hk3⟩
   have hans3:=hk3.heap HANS2.out (by simp;omega)
   obtain⟨⟨b0,b1,b2,b3⟩,⟨j0,j1,j2,j3⟩⟩:=cw hans3
   have H3:=kH h3
   have HANS3:=kH hans3
   have HK3:=kH hk3
   simp only[aM.val,aW]
   clear h3 hans3 hk3
   go_wp2
   try rw[if_pos HOV.out]
   refine bodyPost_ret (results_cell_row rfl _ _ _ _ _ _ _ rfl (ab (ab (ab (ab HANS3.out)))) Tryz.underlying35 rfl cK) rfl (FIN.out _ _ _ _ rfl ?_ ?_)
   ·exact((((HK3.out.mono (fun y hy=>.inl (by simp at hy;simp[hy]))).set (p:=⟨w.heap.size,0,none⟩) (.inl (by simp)) _).set (p:=⟨w.heap.size,1,none⟩) (.inl (by simp)) _).set (p:=⟨w.heap.size,2,none⟩) (.inl (by simp)) _).set (p:=⟨w.heap.size,3,none⟩) (.inl (by simp)) _
   ·exact al (al (al (al H3.out (by simp;omega)) (by simp;omega)) (by simp;omega)) (by simp;omega)
  ·have hov':dq (m.head at_) at_=false:=by simpa using hov
   rw[hov']
   have HOV:=kH hov
   clear hov hov'
   have hxs:x≠w.heap.size:=by omega
   rcases(show at_-1<1\/(1<=at_-1/\at_-1=seen-m.ring)\/(1<=at_-1/\¬at_-1=seen-m.ring) by omega)with h|⟨h,h'⟩|⟨h,h'⟩
   ·have HC:Hid (at_-1<1\/at_-1=seen-m.ring):=.inl h
    go_wp2_with fail
    go_quiet(fail)
    go_wp2_with fail
    refine Calls.mono (nu ((w2.setCell ⟨x,3,none⟩ (.int .i64 (at_-1))).drewN nq) x ⟨m.ring,1,seen,at_-1⟩ (at_-1) (show(World.drewN _ _).heap[x]?=_ from ab (i:=3) (v:=.int .i64 (at_-1)) H2.out)) ?_
    rintro e w3 ⟨rfl,h3,hk3⟩
    have hans3:=hk3.heap (show(World.drewN _ _).heap[w.heap.size]?=_ from al (q:=⟨x,3,none⟩) (v:=.int .i64 (at_-1)) HANS2.out (by simp;omega)) (by simp;omega)
    obtain⟨⟨b0,b1,b2,b3⟩,⟨j0,j1,j2,j3⟩⟩:=cw hans3
    have H3:=kH h3
    have HANS3:=kH hans3
    have HK3:=kH ((((aQ.refl [x] w2).set (p:=⟨x,3,none⟩) (.inl (by simp)) (.int .i64 (at_-1))).drewN nq).then hk3)
    simp only[aM.val,aW]
    clear h3 hans3 hk3
    go_wp2
    try rw[if_neg HOV.out,if_pos HC.out]
    refine bodyPost_ret (results_cell_row rfl _ _ _ _ _ _ _ rfl (ab (ab (ab (ab HANS3.out)))) Tryz.underlying35 rfl cK) rfl (FIN.out _ _ _ _ rfl ?_ ?_)
    ·exact((((HK3.out.mono (fun y hy=>.inl (by simp at hy;simp[hy]))).set (p:=⟨w.heap.size,0,none⟩) (.inl (by simp)) _).set (p:=⟨w.heap.size,1,none⟩) (.inl (by simp)) _).set (p:=⟨w.heap.size,2,none⟩) (.inl (by simp)) _).set (p:=⟨w.heap.size,3,none⟩) (.inl (by simp)) _
    ·exact al (al (al (al H3.out (by simp;omega)) (by simp;omega)) (by simp;omega)) (by simp;omega)
   ·have HC:Hid (at_-1<1\/at_-1=seen-m.ring):=.inr h'
    have hlt1:decide (at_-1<1)=false:=by simp;omega
    have heq:(at_-1 == seen-m.ring)=true:=by simpa using h'
    clear h'
    go_wp2_with fail
    go_quiet(fail)
    go_wp2_with fail
    refine Calls.mono (nu ((w2.setCell ⟨x,3,none⟩ (.int .i64 (at_-1))).drewN nq) x ⟨m.ring,1,seen,at_-1⟩ (at_-1) (show(World.drewN _ _).heap[x]?=_ from ab (i:=3) (v:=.int .i64 (at_-1)) H2.out)) ?_
    rintro e w3 ⟨rfl,h3,hk3⟩
    have hans3:=hk3.heap (show(World.drewN _ _).heap[w.heap.size]?=_ from al (q:=⟨x,3,none⟩) (v:=.int .i64 (at_-1)) HANS2.out (by simp;omega)) (by simp;omega)
    obtain⟨⟨b0,b1,b2,b3⟩,⟨j0,j1,j2,j3⟩⟩:=cw hans3
    have H3:=kH h3
    have HANS3:=kH hans3
    have HK3:=kH ((((aQ.refl [x] w2).set (p:=⟨x,3,none⟩) (.inl (by simp)) (.int .i64 (at_-1))).drewN nq).then hk3)
    simp only[aM.val,aW]
    clear h3 hans3 hk3
    go_wp2
    try rw[if_neg HOV.out,if_pos HC.out]
    refine bodyPost_ret (results_cell_row rfl _ _ _ _ _ _ _ rfl (ab (ab (ab (ab HANS3.out)))) Tryz.underlying35 rfl cK) rfl (FIN.out _ _ _ _ rfl ?_ ?_)
    ·exact((((HK3.out.mono (fun y hy=>.inl (by simp at hy;simp[hy]))).set (p:=⟨w.heap.size,0,none⟩) (.inl (by simp)) _).set (p:=⟨w.heap.size,1,none⟩) (.inl (by simp)) _).set (p:=⟨w.heap.size,2,none⟩) (.inl (by simp)) _).set (p:=⟨w.heap.size,3,none⟩) (.inl (by simp)) _
    ·exact al (al (al (al H3.out (by simp;omega)) (by simp;omega)) (by simp;omega)) (by simp;omega)
   ·have HC:Hid (¬(at_-1<1\/at_-1=seen-m.ring)):=by unfold Hid;omega
    have hlt1:decide (at_-1<1)=false:=by simp;omega
    have heq:(at_-1 == seen-m.ring)=false:=by simpa using h'
    have h3:=ab (i:=3) (v:=.int .i64 (at_-1)) H2.out
    have H3:Hid (kW (w2.setCell ⟨x,3,none⟩ (.int .i64 (at_-1))) x ⟨m.ring,1,seen,at_-1⟩):=h3
    have HANS3:=kH (al (q:=⟨x,3,none⟩) (v:=.int .i64 (at_-1)) HANS2.out (by simp;omega))
    clear h' h3
    go_wp2_with fail
    go_quiet(fail)
    go_wp2
    try rw[if_neg HOV.out,if_neg HC.out]
    refine bodyPost_ret (results_cell_row rfl _ _ _ _ _ _ _ rfl (ab (ab (ab (ab HANS3.out)))) Tryz.underlying35 rfl cK) rfl (FIN.out _ _ _ _ rfl ?_ ?_)
    ·exact(((((((aQ.refl [x,w.heap.size] w2).set (p:=⟨x,3,none⟩) (.inl (by simp)) _).drewN _).set (p:=⟨w.heap.size,0,none⟩) (.inl (by simp)) _).set (p:=⟨w.heap.size,1,none⟩) (.inl (by simp)) _).set (p:=⟨w.heap.size,2,none⟩) (.inl (by simp)) _).set (p:=⟨w.heap.size,3,none⟩) (.inl (by simp)) _)
    ·exact al (al (al (al H3.out (by simp;omega)) (by simp;omega)) (by simp;omega)) (by simp;omega)
def gl(c:eD):Array Value:=#[.int .i64 c.size,.int .i64 c.from_,.int .u64 (c.reads.getD 0 0),.int .u64 (c.reads.getD 1 0),.int .u64 (c.reads.getD 2 0),.int .u64 (c.reads.getD 3 0),.int .u64 (c.reads.getD 4 0),.int .u64 (c.reads.getD 5 0),.int .u64 (c.reads.getD 6 0),.int .u64 (c.reads.getD 7 0),
 .bool c.last,.int .i64 c.state,.int .i64 c.start,.int .i64 c.seen,.int .i64 c.at_,.int .i64 c.word]
def cJ(w:World)(x:Nat)(c:eD):Prop:=w.heap[x]?=some (.cells (gl c) 254 (0,0))
structure ChkBox(w:World)(x:Nat)(c:eD):Prop where
 c0:w.cell? ⟨x,0,none⟩=some (.int .i64 c.size)
 c1:w.cell? ⟨x,1,none⟩=some (.int .i64 c.from_)
 c10:w.cell? ⟨x,10,none⟩=some (.bool c.last)
 c11:w.cell? ⟨x,11,none⟩=some (.int .i64 c.state)
 c12:w.cell? ⟨x,12,none⟩=some (.int .i64 c.start)
 c13:w.cell? ⟨x,13,none⟩=some (.int .i64 c.seen)
 c14:w.cell? ⟨x,14,none⟩=some (.int .i64 c.at_)
 c15:w.cell? ⟨x,15,none⟩=some (.int .i64 c.word)
 fr:∀ i,w.frozen? ⟨x,i,none⟩=false
 lt:x<w.heap.size
theorem cJ.box{w:World}{x:Nat}{c:eD}(h:cJ w x c):ChkBox w x c:=by
 have hc:=fun j=>cell_of_row w x j _ _ _ h
 exact⟨by simpa[gl]using hc 0,by simpa[gl]using hc 1,by simpa[gl]using hc 10,by simpa[gl]using hc 11,by simpa[gl]using hc 12,by simpa[gl]using hc 13,by simpa[gl]using hc 14,by simpa[gl]using hc 15,fun i=>frozen_of_row w x i _ _ h,af h⟩
theorem cJ.word{w:World}{x:Nat}{c:eD}(h:cJ w x c)(k:Nat)(hk:k<8):w.cell? ⟨x,2+k,none⟩=some (.int .u64 (c.reads.getD k 0)):=by
 rw[cell_of_row w x (2+k) _ _ _ h]
 rcases(show k=0\/k=1\/k=2\/k=3\/k=4\/k=5\/k=6\/k=7 by omega)with rfl|rfl|rfl|rfl|rfl|rfl|rfl|rfl<;>rfl
theorem sB(w:World)(x:Nat)(c:eD)(s:Int)(h:cJ w x c) :
  Calls Tryz.prog 277 #[ptr x,.int .i64 s] w (fun e w'=>e=.returned (if s=4 then aW 0 else moved).val/\cJ w' x {c with state:=s}/\aQ [x] w w'):=by
 obtain⟨c0,c1,c10,c11,c12,c13,c14,c15,fr,lt⟩:=h.box
 have f11:=fr 11
 have H:=kH h
 clear h fr c0 c1 c10 c12 c13 c14 c15
 unfold ptr
 by_cases hs:s=4
 ·rw[if_pos hs]
  subst hs
  go_enter Tryz.func277,Tryz.ntmps277
  go_wp2
  exact bodyPost_ret (results_cell_row rfl _ _ _ _ _ _ _ rfl (ar (by simp)) Tryz.underlying35 rfl cK) rfl ⟨rfl,bS (ab (i:=11) H.out),((aQ.refl _ _).set (.inl (by simp)) _).alloc _⟩
 ·rw[if_neg hs]
  have hs':(s == 4)=false:=by simpa using hs
  clear hs
  go_enter Tryz.func277,Tryz.ntmps277
  go_wp2
  exact bodyPost_ret (results_cell_row rfl _ _ _ _ _ _ _ rfl (ar (by simp)) Tryz.underlying35 rfl cK) rfl ⟨rfl,bS (ab (i:=11) H.out),((aQ.refl _ _).set (.inl (by simp)) _).alloc _⟩
theorem A9(w:World)(x:Nat)(c:eD)(s:Int)(h:cJ w x c) :
  Calls Tryz.prog 276 #[ptr x,.int .i64 s] w (fun e w'=>e=.returned (bi s).val/\cJ w' x {c with state:=5}/\aQ [x] w w'):=by
 obtain⟨c0,c1,c10,c11,c12,c13,c14,c15,fr,lt⟩:=h.box
 have f11:=fr 11
 have H:=kH h
 clear h fr c0 c1 c10 c12 c13 c14 c15
 unfold ptr
 go_enter Tryz.func276,Tryz.ntmps276
 go_wp2
 exact bodyPost_ret (results_cell_row rfl _ _ _ _ _ _ _ rfl (ar (by simp)) Tryz.underlying35 rfl cK) rfl ⟨rfl,bS (ab (i:=11) H.out),((aQ.refl _ _).set (.inl (by simp)) _).alloc _⟩
theorem zM(w:World)(x:Nat)(c:eD)(n:Int)(h:cJ w x c)(hf:0<=c.from_/\aI c.from_)(hn:aI n) :
  Calls Tryz.prog 278 #[ptr x,.int .i64 n] w (fun e w'=>e=.returned (.bool (nk c n))/\Below w.heap.size w w'):=by
 obtain⟨c0,c1,c10,c11,c12,c13,c14,c15,fr,lt⟩:=h.box
 clear h fr c10 c11 c12 c13 c14 c15
 unfold nk
 generalize c.from_=f at *
 generalize c.size=z at *
 unfold aI at *
 unfold ptr
 by_cases h1:f<n
 ·by_cases h2:z<n-f
  ·rw[decide_eq_true ⟨h1,h2⟩]
   go_enter Tryz.func278,Tryz.ntmps278
   go_wp2
   go_quiet(fail)
   go_wp2
   go_ret
   exact⟨by simp,dn w _⟩
  ·rw[decide_eq_false (fun h=>h2 h.2)]
   go_enter Tryz.func278,Tryz.ntmps278
   go_wp2
   go_quiet(fail)
   go_wp2
   go_ret
   exact⟨by simp[h2],dn w _⟩
 ·rw[decide_eq_false (fun h=>h1 h.1)]
  have h1':decide (f<n)=false:=decide_eq_false h1
  go_enter Tryz.func278,Tryz.ntmps278
  go_wp2
  go_quiet(fail)
  go_wp2
  go_ret
  exact⟨by simp,dn w _⟩
theorem sj(w:World)(x:Nat)(c:eD)(h:cJ w x c)(h4:c.state=4) :
  Calls Tryz.prog 118 #[ptr x] w (fun e w'=>e=.returned (.tuple #[.int .i64 c.start,.int .i64 c.seen,.bool true])/\Below w.heap.size w w'):=by
 obtain⟨c0,c1,c10,c11,c12,c13,c14,c15,fr,lt⟩:=h.box
 rw[h4]at c11
 clear h fr c10 c14 c15 h4
 unfold ptr
 go_enter Tryz.func118,Tryz.ntmps118
 go_wp2
 go_quiet(fail)
 go_wp2
 go_ret3
 exact⟨rfl,dn w _⟩
theorem ur(w:World)(size from_:Int)(reads:List Int)(last:Bool)(h0:1<=size/\size<=16)(h1:0<=from_)(hr:reads.length=8) :
  Calls Tryz.prog 110 #[.int .i64 size,.int .i64 from_,dR reads,.bool last] w (fun e w'=>∃ x,w.heap.size<=x/\e=.returned (.tuple #[ptr x,.int .i64 0])/\cJ w' x (bJ size from_ reads last)/\Below w.heap.size w w'):=by
 obtain⟨a,b,c,d,e,f,g,i,rfl⟩:=lT hr
 rw[show dR [a,b,c,d,e,f,g,i]=.agg #[.int .u64 a,.int .u64 b,.int .u64 c,.int .u64 d,.int .u64 e,.int .u64 f,.int .u64 g,.int .u64 i]from rfl]
 unfold ptr
 obtain⟨h0,h0'⟩:=h0
 clear hr
 have d1:decide (size<1)=false:=by simp;omega
 have d2:decide (16<size)=false:=by simp;omega
 have d3:decide (from_<0)=false:=by simp;omega
 go_enter Tryz.func110,Tryz.ntmps110
 go_wp2
 go_ret2
 exact⟨w.heap.size+1,by omega,rfl,ar (by simp),bA (ai w _) _⟩
theorem qJ(r:List Int):∀ (f j:Nat),8<=f+j->cq r (f+1) j=cq r f j
 | 0,j,h=>by
  show(if j<8/\r.getD j 0=0 then cq r 0 (j+1)else j)=j
  rw[if_neg (by omega)]
 | f+1,j,h=>by
  show(if j<8/\r.getD j 0=0 then cq r (f+1) (j+1)else j)=(if j<8/\r.getD j 0=0 then cq r f (j+1)else j)
  split
  ·exact qJ r f (j+1) (by omega)
  ·rfl
theorem qH{r:List Int}{j:Nat}(hj:j<8)(h0:r.getD j 0=0):cq r 8 j=cq r 8 (j+1):=by
 rw[qJ r 7 (j+1) (by omega)]
 show(if j<8/\r.getD j 0=0 then cq r 7 (j+1)else j)=_
 rw[if_pos ⟨hj,h0⟩]
theorem jF{r:List Int}{j:Nat}(h:¬(j<8/\r.getD j 0=0)):cq r 8 j=j:=by
 show(if j<8/\r.getD j 0=0 then cq r 7 (j+1)else j)=j
 rw[if_neg h]
theorem rf(w:World)(x:Nat)(c:eD)(j:Nat)(a:Int)(h:cJ w x c)(ha:a+1=j)(hj:j<=8) :
  Calls Tryz.prog 272 #[ptr x,.int .i64 a] w (fun e w'=>e=.returned (.int .i64 (cq c.reads 8 j:Nat))/\Below w.heap.size w w'):=by
 obtain rfl:a=(j:Int)-1:=by omega
 have H:=kH h
 have hlt:=h.box.lt
 generalize hr:cq c.reads 8 j=R
 have HR:=kH hr
 clear h hr ha
 unfold ptr
 go_enter Tryz.func272,Tryz.ntmps272
 go_wp2
 go_loopg[1] (9-j) (fun nn v1 wr=>∃ k:Nat,k<=8/\v1=.int .i64 k/\nn+k=9/\cq c.reads 8 k=R/\Below w.heap.size w wr)
 case atStart=>exact⟨j,hj,by go_num,by omega,HR.out,Below.refl _ _⟩
 case round =>
  obtain⟨k,hk,rfl,hn,hR,bel⟩:=hrel
  have HN:=kH hn
  have HK:=kH hR
  have hxr:cJ wr x c:=(bel.block x hlt).trans H.out
  have HXR:=kH hxr
  have hltr:=hxr.box.lt
  clear hn hR hxr
  by_cases h8:k<8
  ·have hc:=HXR.out.word k h8
   have h8':(k:Int)<8:=by omega
   by_cases h0:c.reads.getD k 0=0
   ·have HZ:=kH (qH h8 h0)
    rw[h0]at hc
    clear h0
    go_wp2
    go_roundg (8-k)
    case measure=>have:=HN.out;omega
    case rel=>exact⟨k+1,by omega,by go_num,by have:=HN.out;omega,by rw[<-HZ.out];exact HK.out,bel⟩
   ·have HZ:=kH (jF (r:=c.reads) (j:=k) (fun h=>h0 h.2))
    have h0':(c.reads.getD k 0 == 0)=false:=by simpa using h0
    generalize c.reads.getD k 0=y at *
    clear h0
    go_wp2
    go_ret
    exact⟨by rw[<-HK.out,HZ.out];rfl,bel⟩
  ·have hk8:k=8:=by omega
   subst hk8
   have HZ:=kH (jF (r:=c.reads) (j:=8) (fun h=>by omega))
   go_wp2
   go_ret
   exact⟨by rw[<-HK.out,HZ.out];rfl,bel⟩
end Go.Proofs.YtgfogfciobmmpaaGreatDoor
