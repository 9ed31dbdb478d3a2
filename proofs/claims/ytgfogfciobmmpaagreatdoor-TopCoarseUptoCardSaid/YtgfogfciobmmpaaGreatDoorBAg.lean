/- A part of the proof of a law of carouseltop: Mid Sep Pack Chk2 Ints. -/
import Derived.Test.YtgfogfciobmmpaaGreatDoorBAe
import Derived.Test.YtgfogfciobmmpaaGreatDoorBAf
set_option linter.unusedSimpArgs false
set_option linter.unusedVariables false
set_option maxRecDepth 100000
set_option maxHeartbeats 8000000
set_option linter.unnecessarySimpa false
namespace Go.Proofs.YtgfogfciobmmpaaGreatDoor
open Go.RowKit
section
theorem eU{P:Program}{f:FuncId}{args:Array Value}{w:World}{n:Nat}{v:Value}(h:Calls P f args (w.drewN n) (dm v (w.drewN n))):Calls P f args (w.drewN n) fun e w''=>e=.returned v/\∃ m,w''=w.drewN m :=
 h.mono fun _ _ ⟨he,hm⟩=>⟨he,n,hm.symm⟩
structure eI(w:World)(x g p L:Nat)(F:List Nat)(m:au)(mx an:Obj)(W:World):Prop where
 kept:aQ (x::F) w W
 mach:W.heap[x]?=some mx
 ans:W.heap[g]?=some an
 mem:∃ F',dk W p m L F'/\dz w.heap.size F F'/\x∉F'/\g∉F'
 new:w.heap.size<=g
 old:x<w.heap.size
variable {w:World}{x g p L:Nat}{F:List Nat}{m:au}{mx an:Obj}{W:World}
theorem eI.ne(h:eI w x g p L F m mx an W):x≠g:=by have:=h.new;have:=h.old;omega
theorem eI.lt(h:eI w x g p L F m mx an W):x<W.heap.size/\g<W.heap.size:=⟨af h.mach,af h.ans⟩
theorem vu(h:w.heap[x]?=some mx)(hr:dk w p m L F)(hx:x∉F)(o:Obj):eI w x w.heap.size p L F m mx o (w.alloc o) :=
 ⟨(aQ.refl _ w).alloc _,bS h,ar rfl,⟨F,hr.kept ((aQ.refl [] w).alloc _) (by simp),dz.refl _ _,hx,fun h=>by have:=hr.lt _ h;omega⟩,Nat.le_refl _,af h⟩
theorem eI.below(h:eI w x g p L F m mx an W){W':World}(hb:Below W.heap.size W W'):eI w x g p L F m mx an W':=by
 obtain⟨k,h1,h2,⟨F',h3,h4,h5,h6⟩,h7,h8⟩:=h
 exact⟨k.trans (aQ.of_below hb []) (fun _ hx=>nomatch hx),(hb.block x (af h1)).trans h1,(hb.block g (af h2)).trans h2,⟨F',h3.kept (aQ.of_below hb []) (by simp),h4,h5,h6⟩,h7,h8⟩
theorem eI.drewN(h:eI w x g p L F m mx an W)(n:Nat):eI w x g p L F m mx an (W.drewN n):=h.below (dn W n)
theorem eI.drew(h:eI w x g p L F m mx an W):eI w x g p L F m mx an W.drew:=h.below ⟨rfl,rfl,rfl,Nat.le_refl _,fun _ _=>rfl⟩
theorem eI.alloc(h:eI w x g p L F m mx an W)(o:Obj):eI w x g p L F m mx an (W.alloc o):=h.below (ai W o)
theorem eI.call(h:eI w x g p L F m mx an W){o:Obj}{W':World}(hk:aQ [x] W W')(ho:W'.heap[x]?=some o):eI w x g p L F m o an W':=by
 obtain⟨k,h1,h2,⟨F',h3,h4,h5,h6⟩,h7,h8⟩:=h
 exact⟨k.trans hk (fun y hy=>by rw[List.mem_singleton.1 hy];exact .inl List.mem_cons_self),ho,hk.heap h2 (by simp;omega),⟨F',h3.kept hk (fun y hy=>by simp;rintro rfl;exact h5 hy),h4,h5,h6⟩,h7,h8⟩
theorem eI.set{cs:Array Value}{t:TypeId}(h:eI w x g p L F m (.cells cs t (0,0)) an W)(i:Nat)(v:Value):eI w x g p L F m (.cells (cs.setIfInBounds i v) t (0,0)) an (W.setCell ⟨x,i,none⟩ v) :=
 h.call ((aQ.refl _ W).set (p:=⟨x,i,none⟩) (.inl (by simp)) v) (ab h.mach)
theorem eI.put{cs:Array Value}{t:TypeId}(h:eI w x g p L F m mx (.cells cs t (0,0)) W)(i:Nat)(v:Value):eI w x g p L F m mx (.cells (cs.setIfInBounds i v) t (0,0)) (W.setCell ⟨g,i,none⟩ v):=by
 obtain⟨k,h1,h2,⟨F',h3,h4,h5,h6⟩,h7,h8⟩:=h
 have hk:aQ [g] W (W.setCell ⟨g,i,none⟩ v):=(aQ.refl _ W).set (p:=⟨g,i,none⟩) (.inl (by simp)) v
 exact⟨k.trans hk (fun y hy=>by rw[List.mem_singleton.1 hy];exact .inr h7),al h1 (by simp;omega),ab h2,⟨F',h3.kept hk (fun y hy=>by simp;rintro rfl;exact h6 hy),h4,h5,h6⟩,h7,h8⟩
theorem eI.acc(h:eI w x g p L F m mx an W){m':au}{r:Value}{f:Nat}{args:Array Value}(hc:∀ F',dk W p m L F'->Calls Tryz.prog f args W (fq p m' L F' r W)) :
  Calls Tryz.prog f args W (fun e W'=>e=.returned r/\eI w x g p (L+1) F m' mx an W'):=by
 obtain⟨k,h1,h2,⟨F',h3,h4,h5,h6⟩,h7,h8⟩:=h
 refine(hc F' h3).mono ?_
 rintro e W' ⟨rfl,F2,r2,k2,f2⟩
 have hle:=k.size
 refine⟨rfl,k.trans k2 (fun y hy=>?_),k2.heap h1 h5,k2.heap h2 h6,⟨F2,r2,h4.trans f2 hle,dU f2 h5 (af h1),dU f2 h6 (af h2)⟩,h7,h8⟩
 rcases h4 y hy with h|h
 ·exact .inl (List.mem_cons_of_mem _ h)
 ·exact .inr h
theorem eI.step(h:eI w x g p L F m mx an W){m':au}{a:aM}{mx':Obj}{R:World->Prop}{f:Nat}{args:Array Value}(hc:∀ F',dk W p m L F'->x∉F'->Calls Tryz.prog f args W (gC x p L F' R a m' W))(hR:∀ W',R W'->W'.heap[x]?=some mx') :
  Calls Tryz.prog f args W (fun e W'=>e=.returned a.val/\eI w x g p (L+1) F m' mx' an W'):=by
 obtain⟨k,h1,h2,⟨F',h3,h4,h5,h6⟩,h7,h8⟩:=h
 refine(hc F' h3 h5).mono ?_
 rintro e W' ⟨rfl,hr,F2,r2,k2,f2⟩
 refine⟨rfl,k.trans k2 (fun y hy=>?_),hR _ hr,k2.heap h2 (fun hm=>?_),⟨F2,r2,h4.trans f2 k.size,dU f2 h5 (af h1),dU f2 h6 (af h2)⟩,h7,h8⟩
 ·rcases List.mem_cons.1 hy with rfl|hy
  ·exact .inl List.mem_cons_self
  ·rcases h4 y hy with h|h
   ·exact .inl (List.mem_cons_of_mem _ h)
   ·exact .inr h
 ·rcases List.mem_cons.1 hm with rfl|hm
  ·omega
  ·exact h6 hm
theorem eI.fin{a:aM}{R:World->Prop}(h:eI w x g p (L+1) F m mx an W)(hR:W.heap[x]?=some mx->R W):gC x p L F R a m w (.returned a.val) W:=by
 obtain⟨k,h1,h2,⟨F',h3,h4,h5,h6⟩,h7,h8⟩:=h
 exact⟨rfl,hR h1,F',h3,k,h4⟩
theorem eI.rep(h:eI w x g p L F m mx an W):∃ F',dk W p m L F':=by
 obtain⟨F',h3,_⟩:=h.mem
 exact⟨F',h3⟩
theorem eI.sizes(h:eI w x g p L F m mx an W):Calls Tryz.prog 39 #[ptr p] W (fun e W'=>e=.returned (.tuple #[.int .i64 m.cells.length,.int .i64 m.ring])/\eI w x g p L F m mx an W'):=by
 obtain⟨F',h3⟩:=h.rep
 refine(nL h3).mono ?_
 rintro e W' ⟨rfl,hb⟩
 exact⟨rfl,h.below hb⟩
theorem eI.loadHead(h:eI w x g p L F m mx an W)(th s:Int)(hL:L<=1073741824):Calls Tryz.prog 215 #[ptr p,.int .i64 th,cH 2 (bI s m.ring) 0] W (fun e W'=>e=.returned (.tuple #[.int .i64 (m.head s),.int .i64 0])/\eI w x g p (L+1) F m mx an W') :=
 h.acc fun _ hr=>oM th s hr hL
theorem eI.loadNewest(h:eI w x g p L F m mx an W)(th:Int)(hL:L<=1073741824):Calls Tryz.prog 215 #[ptr p,.int .i64 th,cH 1 0 0] W (fun e W'=>e=.returned (.tuple #[.int .i64 m.newest,.int .i64 0])/\eI w x g p (L+1) F m mx an W') :=
 h.acc fun _ hr=>iS th hr hL
theorem eI.loadSig(h:eI w x g p L F m mx an W)(th s j:Int)(hj:0<=j/\j<8)(hL:L<=1073741824):Calls Tryz.prog 215 #[ptr p,.int .i64 th,cH 3 (bI s m.ring) j] W (fun e W'=>e=.returned (.tuple #[.int .i64 (m.sig s j),.int .i64 0])/\eI w x g p (L+1) F m mx an W') :=
 h.acc fun _ hr=>wV th s j hj hr hL
theorem eI.loadCell(h:eI w x g p L F m mx an W)(th c:Int)(hc:0<=c/\c<m.cells.length)(hL:L<=1073741824):Calls Tryz.prog 215 #[ptr p,.int .i64 th,cH 4 c 0] W (fun e W'=>e=.returned (.tuple #[.int .i64 (m.cells.getD c.toNat 0),.int .i64 0])/\eI w x g p (L+1) F m mx an W') :=
 h.acc fun _ hr=>s5 th c hc hr hL
theorem eI.cell{cs:Array Value}{t:TypeId}(h:eI w x g p L F m (.cells cs t (0,0)) an W)(i:Nat):W.cell? ⟨x,i,none⟩=cs[i]?:=cell_of_row W x i _ _ _ h.mach
theorem eI.froz{cs:Array Value}{t:TypeId}(h:eI w x g p L F m (.cells cs t (0,0)) an W)(i:Nat):W.frozen? ⟨x,i,none⟩=false:=frozen_of_row W x i _ _ h.mach
theorem eI.ansBox{a b c d:Value}{t:TypeId}(h:eI w x g p L F m mx (.cells #[a,b,c,d] t (0,0)) W) :
  (W.cell? ⟨g,0,none⟩=some a/\W.cell? ⟨g,1,none⟩=some b/\W.cell? ⟨g,2,none⟩=some c/\W.cell? ⟨g,3,none⟩=some d) /\
  (W.frozen? ⟨g,0,none⟩=false/\W.frozen? ⟨g,1,none⟩=false/\W.frozen? ⟨g,2,none⟩=false/\W.frozen? ⟨g,3,none⟩=false):=cw h.ans
def aS(a:aM):Obj:=.cells #[.int .i64 a.kind,.int .i64 a.err,.int .i64 a.value,.bool a.access] 35 (0,0)
theorem eI.ret{a0 b0 c0 d0:Value}{f:Func}{Q:Ending->World->Prop}{act:Act}{q:Tmp}(a:aM)(hres:f.results=#[.cell q 35])
  (h:eI w x g p L F m mx (.cells #[a0,b0,c0,d0] 35 (0,0)) W) (hg:act.tmps.getD q undef=.pointer (some ⟨g,0,none⟩)) (hd:act.defers=[])
  (hQ:∀ W',eI w x g p L F m mx (aS a) W'->Q (.returned a.val) W') :
  bodyPost Tryz.prog f Q .ret act ((((W.setCell ⟨g,0,none⟩ (.int .i64 a.kind)).setCell ⟨g,1,none⟩ (.int .i64 a.err)).setCell ⟨g,2,none⟩ (.int .i64 a.value)).setCell ⟨g,3,none⟩ (.bool a.access)):=by
 have h4:=(((h.put 0 (.int .i64 a.kind)).put 1 (.int .i64 a.err)).put 2 (.int .i64 a.value)).put 3 (.bool a.access)
 exact bodyPost_ret (results_cell_row hres _ _ _ _ _ _ _ hg h4.ans Tryz.underlying35 rfl cK) hd (hQ _ h4)
end
section
structure aw where
 foot:List Nat
 holds:World->Prop
 loc:∀ W W',(∀ x∈foot,W'.heap[x]?=W.heap[x]?)->holds W->holds W'
 lt:∀ W,holds W->∀ x∈foot,x<W.heap.size
def cu(Cs:List aw):List Nat:=Cs.flatMap (·.foot)
structure ah(w:World)(X:List Nat)(Cs:List aw)(W:World):Prop where
 kept:aQ X w W
 holds:∀ c∈Cs,c.holds W
 apart:(cu Cs).Nodup
 src:dz w.heap.size X (cu Cs)
variable {w:World}{X:List Nat}{Cs C1 C2:List aw}{a b c d:aw}{W W':World}
theorem gX(a:aw)(Cs:List aw):cu (a::Cs)=a.foot++cu Cs:=rfl
theorem bY(C1 C2:List aw):cu (C1++C2)=cu C1++cu C2:=List.flatMap_append
theorem kE{x:Nat}:x∈cu Cs↔∃ c∈Cs,x∈c.foot:=List.mem_flatMap
theorem ah.lt(h:ah w X Cs W):∀ x∈cu Cs,x<W.heap.size:=fun x hx=>by
 obtain⟨c,hc,hx⟩:=kE.1 hx
 exact c.lt W (h.holds c hc) x hx
theorem ah.h0(h:ah w X (a::Cs) W):a.holds W:=h.holds _ List.mem_cons_self
theorem ah.h1(h:ah w X (a::b::Cs) W):b.holds W:=h.holds _ (List.mem_cons_of_mem _ List.mem_cons_self)
theorem ah.h2(h:ah w X (a::b::c::Cs) W):c.holds W:=h.holds _ (List.mem_cons_of_mem _ (List.mem_cons_of_mem _ List.mem_cons_self))
theorem ah.h3(h:ah w X (a::b::c::d::Cs) W):d.holds W:=h.holds _ (List.mem_cons_of_mem _ (List.mem_cons_of_mem _ (List.mem_cons_of_mem _ List.mem_cons_self)))
theorem oi(hh:∀ c∈Cs,c.holds w)(ha:(cu Cs).Nodup):ah w (cu Cs) Cs w:=⟨aQ.refl _ _,hh,ha,dz.refl _ _⟩
theorem ah.perm(h:ah w X Cs W)(hp:Cs.Perm C1):ah w X C1 W :=
 ⟨h.kept,fun c hc=>h.holds c (hp.mem_iff.2 hc),((hp.flatMap_right _).nodup_iff).1 h.apart,fun x hx=>h.src x (((hp.flatMap_right _).mem_iff).2 hx)⟩
theorem ah.sw(h:ah w X (a::b::Cs) W):ah w X (b::a::Cs) W:=h.perm (List.Perm.swap b a Cs)
theorem ah.f2(h:ah w X (a::b::c::Cs) W):ah w X (c::a::b::Cs) W:=h.perm (((List.Perm.swap c b Cs).cons a).trans (List.Perm.swap c a (b::Cs)))
theorem ah.f3(h:ah w X (a::b::c::d::Cs) W):ah w X (d::a::b::c::Cs) W :=
 h.perm ((((List.Perm.swap d c Cs).cons b).cons a).trans (((List.Perm.swap d b (c::Cs)).cons a).trans (List.Perm.swap d a (b::c::Cs))))
theorem ah.b2(h:ah w X (a::b::c::Cs) W):ah w X (b::c::a::Cs) W:=h.perm ((List.Perm.swap b a (c::Cs)).trans ((List.Perm.swap c a Cs).cons b))
theorem ah.s23(h:ah w X (a::b::c::Cs) W):ah w X (a::c::b::Cs) W:=h.perm ((List.Perm.swap c b Cs).cons a)
theorem ah.drop(h:ah w X (a::Cs) W):ah w X Cs W :=
 ⟨h.kept,fun c hc=>h.holds c (List.mem_cons_of_mem _ hc),by have:=h.apart;rw[gX,List.nodup_append]at this;exact this.2.1,fun x hx=>h.src x (by rw[gX];exact List.mem_append.2 (.inr hx))⟩
theorem ah.call(h:ah w X (C1++C2) W){C3:List aw}(k:ah W (cu C1) C3 W'):ah w X (C3++C2) W':=by
 have ha:=h.apart
 rw[bY,List.nodup_append]at ha
 obtain⟨n1,n2,n3⟩:=ha
 have hl:=h.lt
 have hd:∀ x∈cu C2,x∉cu C1:=fun x hx hy=>n3 x hy x hx rfl
 refine⟨h.kept.trans k.kept (fun x hx=>h.src x (by rw[bY];exact List.mem_append.2 (.inl hx))),fun c hc=>?_,?_,fun x hx=>?_⟩
 ·rcases List.mem_append.1 hc with hc|hc
  ·exact k.holds c hc
  ·have hx:∀ x∈c.foot,x∈cu C2:=fun x hx=>kE.2 ⟨c,hc,hx⟩
   exact c.loc W W' (fun x hxc=>k.kept.block x (hl x (by rw[bY];exact List.mem_append.2 (.inr (hx x hxc)))) (hd x (hx x hxc))) (h.holds c (List.mem_append.2 (.inr hc)))
 ·rw[bY,List.nodup_append]
  refine⟨k.apart,n2,fun x hx y hy e=>?_⟩
  subst e
  rcases k.src x hx with h1|h1
  ·exact hd x hy h1
  ·have:=hl x (by rw[bY];exact List.mem_append.2 (.inr hy))
   omega
 ·rw[bY]at hx
  rcases List.mem_append.1 hx with hx|hx
  ·rcases k.src x hx with h1|h1
   ·exact h.src x (by rw[bY];exact List.mem_append.2 (.inl h1))
   ·exact .inr (Nat.le_trans h.kept.size h1)
  ·exact h.src x (by rw[bY];exact List.mem_append.2 (.inr hx))
theorem ah.call1(h:ah w X (a::Cs) W){C3:List aw}(k:ah W a.foot C3 W'):ah w X (C3++Cs) W' :=
 ah.call (C1:=[a]) h (by simpa[cu]using k)
theorem ah.call2(h:ah w X (a::b::Cs) W){C3:List aw}(k:ah W (a.foot++b.foot) C3 W'):ah w X (C3++Cs) W' :=
 ah.call (C1:=[a,b]) h (by simpa[cu]using k)
theorem ah.below(h:ah w X Cs W)(hb:Below W.heap.size W W'):ah w X Cs W' :=
 ah.call (C1:=[]) (C2:=Cs) (C3:=[]) h ⟨aQ.of_below hb _,(fun _ hc=>nomatch hc),List.nodup_nil,(fun _ hx=>nomatch hx)⟩
theorem ah.drewN(h:ah w X Cs W)(n:Nat):ah w X Cs (W.drewN n):=h.below (dn W n)
theorem ah.drew(h:ah w X Cs W):ah w X Cs W.drew:=h.below ⟨rfl,rfl,rfl,Nat.le_refl _,fun _ _=>rfl⟩
theorem ah.alloc(h:ah w X Cs W)(o:Obj):ah w X Cs (W.alloc o):=h.below (ai W o)
theorem ah.more(h:ah w X Cs W){C3:List aw}(k:ah W [] C3 W'):ah w X (C3++Cs) W':=ah.call (C1:=[]) (C2:=Cs) h k
def ag(x:Nat)(o:Obj):aw:=⟨[x],fun W=>W.heap[x]?=some o,fun W W' h k=>(h x (by simp)).trans k,fun W k y hy=>by rw[List.mem_singleton.1 hy];exact af k⟩
def aG(p:Nat)(m:au)(L:Nat)(F:List Nat):aw:=⟨F,fun W=>dk W p m L F,fun _ _ h k=>k.keep h,fun _ k=>k.lt⟩
def aN(e:TypeId)(sz:Nat)(v:Value)(n:Nat)(xs:List Value):aw:=⟨bR v,fun W=>aD W e sz v n xs,fun _ _ h k=>k.keep h,fun _ k=>k.lt⟩
theorem qq{W:World}{p:Nat}{m:au}{L:Nat}{F:List Nat}(h:dk W p m L F):F.Nodup:=by
 obtain⟨hb,sb,cb,lv,rfl,h⟩:=h
 exact h.apart
theorem ah.new(h:ah w X Cs W)(o:Obj):ah w X (ag W.heap.size o::Cs) (W.alloc o) :=
 h.more (C3:=[ag W.heap.size o]) ⟨(aQ.refl _ W).alloc _,fun c hc=>by rw[List.mem_singleton.1 hc];exact ar rfl,by simp[cu,ag],fun x hx=>by simp[cu,ag]at hx;exact .inr (by omega)⟩
theorem ah.got(h:ah w X Cs W)(hb:Below W.heap.size W W'){g:Nat}(hg:W.heap.size<=g){o:Obj}(ho:W'.heap[g]?=some o):ah w X (ag g o::Cs) W' :=
 h.more (C3:=[ag g o]) ⟨aQ.of_below hb _,fun c hc=>by rw[List.mem_singleton.1 hc];exact ho,by simp[cu,ag],fun x hx=>by simp[cu,ag]at hx;exact .inr (by omega)⟩
variable {x:Nat}{cs:Array Value}{t:TypeId}{o o':Obj}
theorem ah.cell(h:ah w X (ag x (.cells cs t (0,0))::Cs) W)(i:Nat):W.cell? ⟨x,i,none⟩=cs[i]?:=cell_of_row W x i _ _ _ h.h0
theorem ah.froz(h:ah w X (ag x (.cells cs t (0,0))::Cs) W)(i:Nat):W.frozen? ⟨x,i,none⟩=false:=frozen_of_row W x i _ _ h.h0
theorem ah.cell1(h:ah w X (a::ag x (.cells cs t (0,0))::Cs) W)(i:Nat):W.cell? ⟨x,i,none⟩=cs[i]?:=cell_of_row W x i _ _ _ h.h1
theorem ah.froz1(h:ah w X (a::ag x (.cells cs t (0,0))::Cs) W)(i:Nat):W.frozen? ⟨x,i,none⟩=false:=frozen_of_row W x i _ _ h.h1
theorem ah.cell2(h:ah w X (a::b::ag x (.cells cs t (0,0))::Cs) W)(i:Nat):W.cell? ⟨x,i,none⟩=cs[i]?:=cell_of_row W x i _ _ _ h.h2
theorem ah.chg(h:ah w X (ag x o::Cs) W)(hk:aQ [x] W W')(ho:W'.heap[x]?=some o'):ah w X (ag x o'::Cs) W' :=
 h.call1 (C3:=[ag x o']) ⟨hk,fun c hc=>by rw[List.mem_singleton.1 hc];exact ho,by simp[cu,ag],fun y hy=>by simp[cu,ag]at hy;exact .inl (by simp[ag,hy])⟩
theorem ah.set(h:ah w X (ag x (.cells cs t (0,0))::Cs) W)(i:Nat)(v:Value):ah w X (ag x (.cells (cs.setIfInBounds i v) t (0,0))::Cs) (W.setCell ⟨x,i,none⟩ v) :=
 h.chg ((aQ.refl _ W).set (p:=⟨x,i,none⟩) (.inl (by simp)) v) (ab h.h0)
theorem ah.set1(h:ah w X (a::ag x (.cells cs t (0,0))::Cs) W)(i:Nat)(v:Value):ah w X (a::ag x (.cells (cs.setIfInBounds i v) t (0,0))::Cs) (W.setCell ⟨x,i,none⟩ v):=(h.sw.set i v).sw
theorem ah.ne01{y:Nat}{o2:Obj}(h:ah w X (ag x o::ag y o2::Cs) W):x≠y:=fun e=>by
 have ha:=h.apart
 simp[cu,ag,e]at ha
theorem acc_sep{p:Nat}{m':au}{L:Nat}{F:List Nat}{r:Value}{e:Ending}(h:fq p m' L F r W e W'):e=.returned r/\∃ F',ah W F [aG p m' (L+1) F'] W':=by
 obtain⟨h1,F',h2,h3,h4⟩:=h
 exact⟨h1,F',h3,fun c hc=>by rw[List.mem_singleton.1 hc];exact h2,by simpa[cu,aG]using qq h2,by simpa[cu,aG]using h4⟩
theorem ah.acc{p L:Nat}{m m':au}{F:List Nat}{r:Value}{f:Nat}{args:Array Value}(h:ah w X (aG p m L F::Cs) W)(hc:dk W p m L F->Calls Tryz.prog f args W (fq p m' L F r W)) :
  Calls Tryz.prog f args W (fun e W'=>e=.returned r/\∃ F',ah w X (aG p m' (L+1) F'::Cs) W') :=
 (hc h.h0).mono fun e W' hh=>by
  obtain⟨he,F',k⟩:=acc_sep hh
  exact⟨he,F',h.call1 k⟩
theorem Ck{p:Nat}{m':au}{L:Nat}{F:List Nat}{a:aM}{e:Ending}{R:World->Prop}(h:gC x p L F R a m' W e W')(hR:∀ W',R W'->W'.heap[x]?=some o')(hx:x∉F)(hl:x<W.heap.size) :
  e=.returned a.val/\∃ F',ah W (x::F) [ag x o',aG p m' (L+1) F'] W':=by
 obtain⟨h1,hr,F',h2,h3,h4⟩:=h
 refine⟨h1,F',h3,fun c hc=>?_,?_,fun y hy=>?_⟩
 ·simp only[List.mem_cons,List.not_mem_nil,or_false]at hc
  rcases hc with rfl|rfl
  ·exact hR _ hr
  ·exact h2
 ·simp only[cu,ag,aG,List.flatMap_cons,List.flatMap_nil,List.append_nil,List.singleton_append,List.nodup_cons]
  exact⟨dU h4 hx hl,qq h2⟩
 ·simp only[cu,ag,aG,List.flatMap_cons,List.flatMap_nil,List.append_nil,List.singleton_append,List.mem_cons]at hy
  rcases hy with rfl|hy
  ·exact .inl List.mem_cons_self
  ·rcases h4 y hy with h|h
   ·exact .inl (List.mem_cons_of_mem _ h)
   ·exact .inr h
theorem ah.step{p L:Nat}{m m':au}{F:List Nat}{r:aM}{R:World->Prop}{f:Nat}{args:Array Value}(h:ah w X (ag x o::aG p m L F::Cs) W)(hc:dk W p m L F->x∉F->Calls Tryz.prog f args W (gC x p L F R r m' W))
  (hR:∀ W',R W'->W'.heap[x]?=some o'):Calls Tryz.prog f args W (fun e W'=>e=.returned r.val/\∃ F',ah w X (ag x o'::aG p m' (L+1) F'::Cs) W'):=by
 have ha:=h.apart
 have hx:x∉F:=by
  simp only[cu,ag,aG,List.flatMap_cons,List.singleton_append,List.nodup_cons,List.mem_append,not_or]at ha
  exact ha.1.1
 refine(hc h.h1 hx).mono fun e W' hh=>?_
 obtain⟨he,F',k⟩:=Ck hh hR hx (af h.h0)
 exact⟨he,F',h.call2 (by simpa[ag,aG]using k)⟩
theorem ah.sizes{p L:Nat}{m:au}{F:List Nat}(h:ah w X (aG p m L F::Cs) W):Calls Tryz.prog 39 #[ptr p] W (fun e W'=>e=.returned (.tuple #[.int .i64 m.cells.length,.int .i64 m.ring])/\ah w X (aG p m L F::Cs) W'):=by
 refine(nL h.h0).mono ?_
 rintro e W' ⟨rfl,hb⟩
 exact⟨rfl,h.below hb⟩
theorem ah.loadHead{p L:Nat}{m:au}{F:List Nat}(h:ah w X (aG p m L F::Cs) W)(th s:Int)(hL:L<=1073741824):Calls Tryz.prog 215 #[ptr p,.int .i64 th,cH 2 (bI s m.ring) 0] W (fun e W'=>e=.returned (.tuple #[.int .i64 (m.head s),.int .i64 0])/\∃ F',ah w X (aG p m (L+1) F'::Cs) W') :=
 h.acc fun hr=>oM th s hr hL
theorem ah.loadNewest{p L:Nat}{m:au}{F:List Nat}(h:ah w X (aG p m L F::Cs) W)(th:Int)(hL:L<=1073741824):Calls Tryz.prog 215 #[ptr p,.int .i64 th,cH 1 0 0] W (fun e W'=>e=.returned (.tuple #[.int .i64 m.newest,.int .i64 0])/\∃ F',ah w X (aG p m (L+1) F'::Cs) W') :=
 h.acc fun hr=>iS th hr hL
theorem ah.loadSig{p L:Nat}{m:au}{F:List Nat}(h:ah w X (aG p m L F::Cs) W)(th s j:Int)(hj:0<=j/\j<8)(hL:L<=1073741824):Calls Tryz.prog 215 #[ptr p,.int .i64 th,cH 3 (bI s m.ring) j] W (fun e W'=>e=.returned (.tuple #[.int .i64 (m.sig s j),.int .i64 0])/\∃ F',ah w X (aG p m (L+1) F'::Cs) W') :=
 h.acc fun hr=>wV th s j hj hr hL
theorem ah.loadCell{p L:Nat}{m:au}{F:List Nat}(h:ah w X (aG p m L F::Cs) W)(th c:Int)(hc:0<=c/\c<m.cells.length)(hL:L<=1073741824):Calls Tryz.prog 215 #[ptr p,.int .i64 th,cH 4 c 0] W (fun e W'=>e=.returned (.tuple #[.int .i64 (m.cells.getD c.toNat 0),.int .i64 0])/\∃ F',ah w X (aG p m (L+1) F'::Cs) W') :=
 h.acc fun hr=>s5 th c hc hr hL
theorem ah.storeHead{p L:Nat}{m:au}{F:List Nat}(h:ah w X (aG p m L F::Cs) W)(th s v:Int)(hv:aI v)(hL:L<=1073741824):Calls Tryz.prog 175 #[ptr p,.int .i64 th,cH 2 (bI s m.ring) 0,.int .i64 v] W (fun e W'=>e=.returned (.int .i64 0)/\∃ F',ah w X (aG p (m.setHead s v) (L+1) F'::Cs) W') :=
 h.acc fun hr=>yU th s v hv hr hL
theorem ah.storeSig{p L:Nat}{m:au}{F:List Nat}(h:ah w X (aG p m L F::Cs) W)(th s j v:Int)(hj:0<=j/\j<8)(hv:aI v)(hL:L<=1073741824):Calls Tryz.prog 175 #[ptr p,.int .i64 th,cH 3 (bI s m.ring) j,.int .i64 v] W (fun e W'=>e=.returned (.int .i64 0)/\∃ F',ah w X (aG p (m.setSig s j v) (L+1) F'::Cs) W') :=
 h.acc fun hr=>BC th s j v hj hv hr hL
theorem ah.storeCell{p L:Nat}{m:au}{F:List Nat}(h:ah w X (aG p m L F::Cs) W)(th c v:Int)(hc:0<=c/\c<m.cells.length)(hv:aI v)(hL:L<=1073741824):Calls Tryz.prog 175 #[ptr p,.int .i64 th,cH 4 c 0,.int .i64 v] W (fun e W'=>e=.returned (.int .i64 0)/\∃ F',ah w X (aG p (m.setCell c v) (L+1) F'::Cs) W') :=
 h.acc fun hr=>yV th c v hc hv hr hL
theorem ah.swap{p L:Nat}{m:au}{F:List Nat}(h:ah w X (aG p m L F::Cs) W)(th old v:Int)(hv:aI v)(hL:L<=1073741824):Calls Tryz.prog 282 #[ptr p,.int .i64 th,cH 1 0 0,.int .i64 old,.int .i64 v] W
  (fun e W'=>e=.returned (.tuple #[.bool (decide (m.newest=old)),.int .i64 0])/\∃ F',ah w X (aG p (if m.newest=old then {m with newest:=v} else m) (L+1) F'::Cs) W') :=
 h.acc fun hr=>wN th old v hv hr hL
theorem ah.ret{a0 b0 c0 d0:Value}{f:Func}{Q:Ending->World->Prop}{act:Act}{q:Tmp}{g:Nat}(a:aM)(hres:f.results=#[.cell q 35])
  (h:ah w X (ag g (.cells #[a0,b0,c0,d0] 35 (0,0))::Cs) W) (hg:act.tmps.getD q undef=.pointer (some ⟨g,0,none⟩)) (hd:act.defers=[])
  (hQ:∀ W',ah w X Cs W'->Q (.returned a.val) W') :
  bodyPost Tryz.prog f Q .ret act ((((W.setCell ⟨g,0,none⟩ (.int .i64 a.kind)).setCell ⟨g,1,none⟩ (.int .i64 a.err)).setCell ⟨g,2,none⟩ (.int .i64 a.value)).setCell ⟨g,3,none⟩ (.bool a.access)):=by
 have h4:=(((h.set 0 (.int .i64 a.kind)).set 1 (.int .i64 a.err)).set 2 (.int .i64 a.value)).set 3 (.bool a.access)
 exact bodyPost_ret (results_cell_row hres _ _ _ _ _ _ _ hg h4.h0 Tryz.underlying35 rfl cK) hd (hQ _ h4.drop)
theorem ah.retA{a0 b0 c0 d0:Value}{f:Func}{Q:Ending->World->Prop}{act:Act}{q:Tmp}{g:Nat}(a:aM)(hres:f.results=#[.cell q 35])
  (h:ah w X (ag g (.cells #[a0,b0,c0,d0] 35 (0,0))::Cs) W) (hg:act.tmps.getD q undef=.pointer (some ⟨g,0,none⟩)) (hd:act.defers=[]) (o:Obj)
  (hQ:∀ W',ah w X Cs W'->Q (.returned a.val) W') :
  bodyPost Tryz.prog f Q .ret act (((((W.setCell ⟨g,0,none⟩ (.int .i64 a.kind)).setCell ⟨g,1,none⟩ (.int .i64 a.err)).setCell ⟨g,2,none⟩ (.int .i64 a.value)).setCell ⟨g,3,none⟩ (.bool a.access)).alloc o):=by
 have h4:=((((h.set 0 (.int .i64 a.kind)).set 1 (.int .i64 a.err)).set 2 (.int .i64 a.value)).set 3 (.bool a.access)).alloc o
 exact bodyPost_ret (results_cell_row hres _ _ _ _ _ _ _ hg h4.h0 Tryz.underlying35 rfl cK) hd (hQ _ h4.drop)
theorem ah.ansBox{a b c d:Value}{t:TypeId}{g:Nat}(h:ah w X (ag g (.cells #[a,b,c,d] t (0,0))::Cs) W) :
  (W.cell? ⟨g,0,none⟩=some a/\W.cell? ⟨g,1,none⟩=some b/\W.cell? ⟨g,2,none⟩=some c/\W.cell? ⟨g,3,none⟩=some d) /\
  (W.frozen? ⟨g,0,none⟩=false/\W.frozen? ⟨g,1,none⟩=false/\W.frozen? ⟨g,2,none⟩=false/\W.frozen? ⟨g,3,none⟩=false):=cw h.h0
end
section
def zP(P:List aw->Prop)(F:List Nat):aw where
 foot:=F
 holds W:=∃ Ds,P Ds/\cu Ds=F/\(cu Ds).Nodup/\∀ c∈Ds,c.holds W
 loc W W' h k:=by
  obtain⟨Ds,h1,h2,h3,h4⟩:=k
  refine⟨Ds,h1,h2,h3,fun c hc=>c.loc W W' (fun x hx=>h x ?_) (h4 c hc)⟩
  rw[<-h2]
  exact kE.2 ⟨c,hc,hx⟩
 lt W k x hx:=by
  obtain⟨Ds,h1,h2,h3,h4⟩:=k
  rw[<-h2]at hx
  obtain⟨c,hc,hx⟩:=kE.1 hx
  exact c.lt W (h4 c hc) x hx
variable {w:World}{X F:List Nat}{Cs Ds:List aw}{W W':World}{P P':List aw->Prop}
theorem ah.unpack(h:ah w X (zP P F::Cs) W):∃ Ds,P Ds/\cu Ds=F/\ah w X (Ds++Cs) W:=by
 obtain⟨Ds,h1,h2,h3,h4⟩:=(h.h0:(zP P F).holds W)
 refine⟨Ds,h1,h2,h.kept,fun c hc=>?_,?_,fun x hx=>?_⟩
 ·rcases List.mem_append.1 hc with hc|hc
  ·exact h4 c hc
  ·exact h.holds c (List.mem_cons_of_mem _ hc)
 ·have ha:=h.apart
  rw[bY,h2]
  rwa [gX]at ha
 ·rw[bY,h2]at hx
  exact h.src x (by rw[gX];exact hx)
theorem ah.pack(hP:P Ds)(h:ah w X (Ds++Cs) W):ah w X (zP P (cu Ds)::Cs) W:=by
 have ha:=h.apart
 refine⟨h.kept,fun c hc=>?_,by rw[gX];rwa [bY]at ha,fun x hx=>h.src x (by rw[bY];rwa [gX]at hx)⟩
 rcases List.mem_cons.1 hc with rfl|hc
 ·refine⟨Ds,hP,rfl,?_,fun c hc=>h.holds c (List.mem_append.2 (.inl hc))⟩
  rw[bY,List.nodup_append]at ha
  exact ha.1
 ·exact h.holds c (List.mem_append.2 (.inr hc))
theorem ah.pull(As:List aw){b:aw}{Bs:List aw}(h:ah w X (As++b::Bs) W):ah w X (b::(As++Bs)) W:=h.perm List.perm_middle
theorem ah.push(As:List aw){b:aw}{Bs:List aw}(h:ah w X (b::(As++Bs)) W):ah w X (As++b::Bs) W:=h.perm List.perm_middle.symm
theorem ah.turn(As Bs:List aw)(h:ah w X (As++(Bs++Cs)) W):ah w X (Bs++(As++Cs)) W:=h.perm (List.perm_append_comm_assoc As Bs Cs)
theorem jw(W:World)(b i j:Nat)(v:Value)(h:i≠j):(W.setCell ⟨b,i,none⟩ v).cell? ⟨b,j,none⟩=W.cell? ⟨b,j,none⟩ :=
 World.cell?_setCell_other W _ _ v (fun e=>h (by first|simpa using e|simpa using e.symm))
end
section
attribute [local go_sem] lN zN
theorem Aq{w w2 W9:World}{x p L g:Nat}{F F2:List Nat}{m:au}(hk:aQ (x::F) w w2)(hr:dk w2 p m (L+1) F2)(hf:dz w.heap.size F F2)(hx:x∉F2)(hg:w.heap.size<=g)(hg2:g∉F2)(hxg:x≠g)
  (a:aM) (o:Obj) (h9:aQ [x,g] w2 W9) (ho:W9.heap[x]?=some o) (k e v b:Value) :
  gC x p L F (fun w'=>w'.heap[x]?=some o) a m w (.returned a.val) ((((W9.setCell ⟨g,0,none⟩ k).setCell ⟨g,1,none⟩ e).setCell ⟨g,2,none⟩ v).setCell ⟨g,3,none⟩ b) :=
 qh rfl hk hr hf hx hg hg2 ((((h9.set (p:=⟨g,0,none⟩) (.inl (by simp)) _).set (p:=⟨g,1,none⟩) (.inl (by simp)) _).set (p:=⟨g,2,none⟩) (.inl (by simp)) _).set (p:=⟨g,3,none⟩) (.inl (by simp)) _)
  (al (al (al (al ho (by simpa using hxg)) (by simpa using hxg)) (by simpa using hxg)) (by simpa using hxg))
theorem cJ.dr{w:World}{x:Nat}{c:eD}(h:cJ w x c)(n:Nat):cJ (w.drewN n) x c:=h
theorem jH(w:World)(x:Nat)(c:eD)(h:cJ w x c) :
  Calls Tryz.prog 277 #[ptr x,.int .i64 4] w (fun e w'=>e=.returned (.agg #[.int .i64 3,.int .i64 0,.int .i64 0,.bool true])/\cJ w' x {c with state:=4}/\aQ [x] w w'):=sB w x c 4 h
theorem fx(w:World)(x:Nat)(c:eD)(s:Int)(h:cJ w x c)(hs:s≠4) :
  Calls Tryz.prog 277 #[ptr x,.int .i64 s] w (fun e w'=>e=.returned (.agg #[.int .i64 2,.int .i64 0,.int .i64 0,.bool true])/\cJ w' x {c with state:=s}/\aQ [x] w w'):=by
 have h1:=sB w x c s h
 rw[if_neg hs]at h1
 exact h1
theorem jN(w:World)(x:Nat)(c:eD)(s:Int)(h:cJ w x c) :
  Calls Tryz.prog 276 #[ptr x,.int .i64 s] w (fun e w'=>e=.returned (.agg #[.int .i64 4,.int .i64 s,.int .i64 0,.bool true])/\cJ w' x {c with state:=5}/\aQ [x] w w'):=A9 w x c s h
theorem A8(w:World)(x p:Nat)(th:Int)(c:eD)(m:au)(L:Nat)(F:List Nat)(h:cJ w x c)(hr:dk w p m L F)(hx:x∉F)(hok:lV c m.ring)(h0:c.state=0)(hL:L<=1073741824) :
  Calls Tryz.prog 274 #[ptr x,ptr p,.int .i64 th] w (gC x p L F (fun w'=>cJ w' x (aE m c).2) (aE m c).1 m w):=by
 obtain⟨size,from_,reads,last,state,start,seen,at_,word⟩:=c
 obtain⟨k1,k2,k3,k4,-,-,-,-,-,-,-,-⟩:=hok
 simp only at k1 k2 k3 k4 h0
 subst k1 h0
 have hm:=hr.ok
 have hn:=hm.new
 have hFl:=hr.lt
 have hlt:=af h
 have H:=kH h
 have HR:=kH hr
 have HFL:=kH hFl
 have hxF:=hx
 have HI:=kH (⟨k2,k3,hn⟩:0<=from_/\aI from_/\aI m.newest)
 unfold aI at k3 hn
 clear h hr hx hFl hm
 obtain⟨r0,r1,r2,r3,r4,r5,r6,r7,rfl⟩:=lT k4.1
 clear k4
 have hstep:aE m ⟨m.ring,from_,[r0,r1,r2,r3,r4,r5,r6,r7],last,0,start,seen,at_,word⟩ =
   (if [r0,r1,r2,r3,r4,r5,r6,r7]=bQ\/m.newest<=from_ then(aW 0,⟨m.ring,from_,[r0,r1,r2,r3,r4,r5,r6,r7],last,4,start,m.newest,at_,word⟩)
   else if nk ⟨m.ring,from_,[r0,r1,r2,r3,r4,r5,r6,r7],last,0,start,seen,at_,word⟩ m.newest=true then(bi 4,⟨m.ring,from_,[r0,r1,r2,r3,r4,r5,r6,r7],last,5,start,m.newest,at_,word⟩)
   else(moved,⟨m.ring,from_,[r0,r1,r2,r3,r4,r5,r6,r7],last,1,start,m.newest,from_+1,word⟩)):=rfl
 generalize aE m ⟨m.ring,from_,[r0,r1,r2,r3,r4,r5,r6,r7],last,0,start,seen,at_,word⟩=R at hstep ⊢
 have HSTEP:=kH hstep
 clear hstep
 unfold ptr
 go_enter Tryz.func274,Tryz.ntmps274
 go_wp2_with fail
 refine(iS th (HR.out.kept ((aQ.refl [] w).alloc _) (by simp)) hL).mono ?_
 rintro e2 w2 ⟨rfl,F2,hr2,hk2,hf2⟩
 have hg2F:w.heap.size∉F2:=dU hf2 (fun h=>by have:=HFL.out _ h;omega) (by simp)
 have hx2F:x∉F2:=dU hf2 hxF (by simp;omega)
 have hz2:=hk2.size
 simp only[World.size_alloc]at hz2
 have h2:=hk2.heap (bS H.out) hxF
 have hans2:=hk2.heap (ar (w:=w) (o:=aB) rfl) (fun h=>by have:=HFL.out _ h;omega)
 have hK02:aQ (x::F) w w2:=((aQ.refl _ w).alloc _).trans hk2 (fun y hy=>.inl (List.mem_cons_of_mem _ hy))
 have hF02:dz w.heap.size F F2:=fun y hy=>(hf2 y hy).elim .inl (fun h=>.inr (by simp at h;omega))
 have hxs:x≠w.heap.size:=by omega
 have FIN:=kH (fun(a:aM) (o:Obj) (W9:World) (h9:aQ [x,w.heap.size] w2 W9) (ho:W9.heap[x]?=some o)=>Aq hK02 hr2 hF02 hx2F (Nat.le_refl _) hg2F hxs a o h9 ho)
 have h3:cJ (w2.setCell ⟨x,13,none⟩ (.int .i64 m.newest)) x ⟨m.ring,from_,[r0,r1,r2,r3,r4,r5,r6,r7],last,0,start,m.newest,at_,word⟩:=ab (i:=13) h2
 have hcc:=fun j=>cell_of_row w2 x j _ _ _ h2
 have d13:=hcc 13
 have hf13:=frozen_of_row w2 x 13 _ _ h2
 have hlt2:=af h2
 have HANS3:=kH (al (q:=⟨x,13,none⟩) (v:=.int .i64 m.newest) hans2 (by simp;omega))
 have HK3:=kH ((aQ.refl [x,w.heap.size] w2).set (p:=⟨x,13,none⟩) (.inl (by simp)) (.int .i64 m.newest))
 have H3:=kH h3
 clear hcc h2 hans2 hK02 hF02 hr2 hk2 hf2 hg2F hx2F h3
 go_wp2_with fail
 generalize w2.setCell ⟨x,13,none⟩ (.int .i64 m.newest)=w3 at *
 have hcc:=fun j=>cell_of_row w3 x j _ _ _ H3.out
 have e0:=hcc 0
 have e1:=hcc 1
 have e2:=hcc 2
 have e3:=hcc 3
 have e4:=hcc 4
 have e5:=hcc 5
 have e6:=hcc 6
 have e7:=hcc 7
 have e8:=hcc 8
 have e9:=hcc 9
 have e13:=hcc 13
 have e14:=hcc 14
 have e14f:=frozen_of_row w3 x 14 _ _ H3.out
 simp only[gl,gA,gZ,gS]at e0 e1 e2 e3 e4 e5 e6 e7 e8 e9 e13 e14
 clear hcc d13 hf13
 by_cases hz:[r0,r1,r2,r3,r4,r5,r6,r7]=bQ
 ·have hq:eq8 [r0,r1,r2,r3,r4,r5,r6,r7] [0,0,0,0,0,0,0,0]=true:=decide_eq_true hz
  have HZ:=kH hz
  clear hz
  go_quiet(fail)
  go_wp2_with fail
  refine(jH _ x _ (H3.out.dr _)).mono ?_
  rintro e w4 ⟨rfl,h4,hk4⟩
  have hans4:=hk4.heap (show(w3.drewN _).heap[w.heap.size]?=_ from HANS3.out) (by simp;omega)
  obtain⟨⟨b0,b1,b2,b3⟩,⟨j0,j1,j2,j3⟩⟩:=cw hans4
  have H4:=kH h4
  have HANS4:=kH hans4
  have HK4:=kH ((HK3.out.drewN nq).then (hk4.mono (fun y hy=>.inl (by simp at hy;simp[hy]))))
  clear h4 hans4 hk4
  go_wp2
  have hR:=HSTEP.out
  rw[if_pos (.inl HZ.out)]at hR
  subst hR
  exact bodyPost_ret (results_cell_row rfl _ _ _ _ _ _ _ rfl (ab (ab (ab (ab HANS4.out)))) Tryz.underlying35 rfl cK) rfl (FIN.out (aW 0) _ _ HK4.out H4.out _ _ _ _)
 ·have hq:eq8 [r0,r1,r2,r3,r4,r5,r6,r7] [0,0,0,0,0,0,0,0]=false:=decide_eq_false hz
  have HZ:=kH hz
  clear hz
  by_cases hle:m.newest<=from_
  ·have HLE:=kH hle
   go_quiet(fail)
   go_wp2_with fail
   refine(jH _ x _ (H3.out.dr _)).mono ?_
   rintro e w4 ⟨rfl,h4,hk4⟩
   have hans4:=hk4.heap (show(w3.drewN _).heap[w.heap.size]?=_ from HANS3.out) (by simp;omega)
   obtain⟨⟨b0,b1,b2,b3⟩,⟨j0,j1,j2,j3⟩⟩:=cw hans4
   have H4:=kH h4
   have HANS4:=kH hans4
   have HK4:=kH ((HK3.out.drewN nq).then (hk4.mono (fun y hy=>.inl (by simp at hy;simp[hy]))))
   clear h4 hans4 hk4
   go_wp2
   have hR:=HSTEP.out
   rw[if_pos (.inr HLE.out)]at hR
   subst hR
   exact bodyPost_ret (results_cell_row rfl _ _ _ _ _ _ _ rfl (ab (ab (ab (ab HANS4.out)))) Tryz.underlying35 rfl cK) rfl (FIN.out (aW 0) _ _ HK4.out H4.out _ _ _ _)
  ·have HLE:=kH hle
   have HNZ:=kH (show ¬([r0,r1,r2,r3,r4,r5,r6,r7]=bQ\/m.newest<=from_)from fun h=>h.elim HZ.out HLE.out)
   have HF:=kH (fun W (hW:cJ W x _)=>zM W x ⟨m.ring,from_,[r0,r1,r2,r3,r4,r5,r6,r7],last,0,start,m.newest,at_,word⟩ m.newest hW ⟨HI.out.1,HI.out.2.1⟩ HI.out.2.2)
   go_quiet(fail)
   go_wp2_with fail
   refine(HF.out _ (H3.out.dr _)).mono ?_
   rintro e w4 ⟨rfl,hb4⟩
   have hK4:aQ [x,w.heap.size] w2 w4:=(HK3.out.drewN nq).trans (aQ.of_below hb4 []) (fun _ h=>nomatch h)
   have h4:cJ w4 x _:=(hb4.block x (af H3.out)).trans (H3.out.dr nq)
   have hans4:=(hb4.block w.heap.size (af HANS3.out)).trans (show(w3.drewN nq).heap[w.heap.size]?=_ from HANS3.out)
   have H4:=kH h4
   have HANS4:=kH hans4
   have HK4:=kH hK4
   clear hb4 hK4 h4 hans4
   by_cases hf:nk ⟨m.ring,from_,[r0,r1,r2,r3,r4,r5,r6,r7],last,0,start,m.newest,at_,word⟩ m.newest=true
   ·rw[hf]
    have HFF:=kH (show nk ⟨m.ring,from_,[r0,r1,r2,r3,r4,r5,r6,r7],last,0,start,seen,at_,word⟩ m.newest=true from hf)
    clear hf
    go_wp2_with fail
    refine(jN _ x _ 4 H4.out).mono ?_
    rintro e w5 ⟨rfl,h5,hk5⟩
    have hans5:=hk5.heap HANS4.out (by simp;omega)
    obtain⟨⟨b0,b1,b2,b3⟩,⟨j0,j1,j2,j3⟩⟩:=cw hans5
    have H5:=kH h5
    have HANS5:=kH hans5
    have HK5:=kH (HK4.out.then (hk5.mono (fun y hy=>.inl (by simp at hy;simp[hy]))))
    clear h5 hans5 hk5
    go_wp2
    have hR:=HSTEP.out
    rw[if_neg HNZ.out,if_pos HFF.out]at hR
    subst hR
    exact bodyPost_ret (results_cell_row rfl _ _ _ _ _ _ _ rfl (ab (ab (ab (ab HANS5.out)))) Tryz.underlying35 rfl cK) rfl (FIN.out (bi 4) _ _ HK5.out H5.out _ _ _ _)
   ·have hff:nk ⟨m.ring,from_,[r0,r1,r2,r3,r4,r5,r6,r7],last,0,start,m.newest,at_,word⟩ m.newest=false:=by simpa using hf
    rw[hff]
    have HFF:=kH (show ¬nk ⟨m.ring,from_,[r0,r1,r2,r3,r4,r5,r6,r7],last,0,start,seen,at_,word⟩ m.newest=true from hf)
    clear hf hff
    have hcc:=fun j=>cell_of_row w4 x j _ _ _ H4.out
    have e1:=hcc 1
    have e14:=hcc 14
    have e14f:=frozen_of_row w4 x 14 _ _ H4.out
    simp only[gl,gA,gZ,gS]at e1 e14
    clear hcc
    go_wp2_with fail
    refine(fx _ x ⟨m.ring,from_,[r0,r1,r2,r3,r4,r5,r6,r7],last,0,start,m.newest,from_+1,word⟩ 1 (ab (i:=14) H4.out) (by decide)).mono ?_
    rintro e w5 ⟨rfl,h5,hk5⟩
    have hans5:=hk5.heap (al (q:=⟨x,14,none⟩) (v:=.int .i64 (from_+1)) HANS4.out (by simp;omega)) (by simp;omega)
    obtain⟨⟨b0,b1,b2,b3⟩,⟨j0,j1,j2,j3⟩⟩:=cw hans5
    have H5:=kH h5
    have HANS5:=kH hans5
    have HK5:=kH ((HK4.out.set (p:=⟨x,14,none⟩) (.inl (by simp)) (.int .i64 (from_+1))).then (hk5.mono (fun y hy=>.inl (by simp at hy;simp[hy]))))
    clear h5 hans5 hk5
    go_wp2
    have hR:=HSTEP.out
    rw[if_neg HNZ.out,if_neg HFF.out]at hR
    subst hR
    exact bodyPost_ret (results_cell_row rfl _ _ _ _ _ _ _ rfl (ab (ab (ab (ab HANS5.out)))) Tryz.underlying35 rfl cK) rfl (FIN.out moved _ _ HK5.out H5.out _ _ _ _)
end
def bz(xs:List Int):List Value:=xs.map (.int .i64)
def cI(v:Value)(xs:List Int):aw:=aN 2 1 v xs.length (bz xs)
end Go.Proofs.YtgfogfciobmmpaaGreatDoor
