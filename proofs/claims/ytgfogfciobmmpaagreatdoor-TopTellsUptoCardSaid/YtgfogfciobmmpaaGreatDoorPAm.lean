/- A part of the proof of the law TopTells: Mid Sep Pack Ints. -/
import Derived.Test.YtgfogfciobmmpaaGreatDoorPAk
set_option linter.unusedSimpArgs false
set_option linter.unusedVariables false
set_option maxRecDepth 100000
set_option maxHeartbeats 8000000
set_option linter.unnecessarySimpa false
namespace Go.Proofs.YtgfogfciobmmpaaGreatDoor
section
open Go.RowKit
theorem just_quiet {P:Program} {f:FuncId} {args:Array Value} {w:World} {n:Nat} {v:Value} (h:Calls P f args (w.drewN n) (Just v (w.drewN n))):Calls P f args (w.drewN n) fun e w''=>e=.returned v∧∃ m,w''=w.drewN m :=
 h.mono fun _ _ ⟨he,hm⟩=>⟨he,n,hm.symm⟩
structure Mid (w:World) (x g p L:Nat) (F:List Nat) (m:MemD) (mx an:Obj) (W:World):Prop where
 kept:Kept (x::F) w W
 mach:W.heap[x]?=some mx
 ans:W.heap[g]?=some an
 mem:∃ F',RepM W p m L F'∧Fresh w.heap.size F F'∧x ∉ F'∧g ∉ F'
 new:w.heap.size≤g
 old:x < w.heap.size
variable {w:World} {x g p L:Nat} {F:List Nat} {m:MemD} {mx an:Obj} {W:World}
theorem Mid.lt (h:Mid w x g p L F m mx an W):x < W.heap.size∧g < W.heap.size:=⟨heap_lt h.mach,heap_lt h.ans⟩
theorem mid_init (h:w.heap[x]?=some mx) (hr:RepM w p m L F) (hx:x ∉ F) (o:Obj):Mid w x w.heap.size p L F m mx o (w.alloc o) :=
 ⟨(Kept.refl _ w).alloc _,heap_old_at h,heap_new_at rfl,⟨F,hr.kept ((Kept.refl [] w).alloc _) (by simp),Fresh.refl _ _,hx,fun h=>by have:=hr.lt _ h;omega⟩,Nat.le_refl _,heap_lt h⟩
theorem Mid.below (h:Mid w x g p L F m mx an W) {W':World} (hb:Below W.heap.size W W'):Mid w x g p L F m mx an W':=by
 obtain ⟨k,h1,h2,⟨F',h3,h4,h5,h6⟩,h7,h8⟩:=h
 exact ⟨k.trans (Kept.of_below hb []) (fun _ hx=>nomatch hx),(hb.block x (heap_lt h1)).trans h1,(hb.block g (heap_lt h2)).trans h2,⟨F',h3.kept (Kept.of_below hb []) (by simp),h4,h5,h6⟩,h7,h8⟩
theorem Mid.drewN (h:Mid w x g p L F m mx an W) (n:Nat):Mid w x g p L F m mx an (W.drewN n):=h.below (below_drewN_ W n)
theorem Mid.drew (h:Mid w x g p L F m mx an W):Mid w x g p L F m mx an W.drew:=h.below ⟨rfl,rfl,rfl,Nat.le_refl _,fun _ _=>rfl⟩
theorem Mid.alloc (h:Mid w x g p L F m mx an W) (o:Obj):Mid w x g p L F m mx an (W.alloc o):=h.below (below_alloc W o)
theorem Mid.call (h:Mid w x g p L F m mx an W) {o:Obj} {W':World} (hk:Kept [x] W W') (ho:W'.heap[x]?=some o):Mid w x g p L F m o an W':=by
 obtain ⟨k,h1,h2,⟨F',h3,h4,h5,h6⟩,h7,h8⟩:=h
 exact ⟨k.trans hk (fun y hy=>by rw [List.mem_singleton.1 hy];exact .inl List.mem_cons_self),ho,hk.heap h2 (by simp;omega),⟨F',h3.kept hk (fun y hy=>by simp;rintro rfl;exact h5 hy),h4,h5,h6⟩,h7,h8⟩
theorem Mid.set {cs:Array Value} {t:TypeId} (h:Mid w x g p L F m (.cells cs t (0,0)) an W) (i:Nat) (v:Value):Mid w x g p L F m (.cells (cs.setIfInBounds i v) t (0,0)) an (W.setCell ⟨x,i,none⟩ v) :=
 h.call ((Kept.refl _ W).set (p:=⟨x,i,none⟩) (.inl (by simp)) v) (heap_set h.mach)
theorem Mid.put {cs:Array Value} {t:TypeId} (h:Mid w x g p L F m mx (.cells cs t (0,0)) W) (i:Nat) (v:Value):Mid w x g p L F m mx (.cells (cs.setIfInBounds i v) t (0,0)) (W.setCell ⟨g,i,none⟩ v):=by
 obtain ⟨k,h1,h2,⟨F',h3,h4,h5,h6⟩,h7,h8⟩:=h
 have hk:Kept [g] W (W.setCell ⟨g,i,none⟩ v):=(Kept.refl _ W).set (p:=⟨g,i,none⟩) (.inl (by simp)) v
 exact ⟨k.trans hk (fun y hy=>by rw [List.mem_singleton.1 hy];exact .inr h7),heap_set_other h1 (by simp;omega),heap_set h2,⟨F',h3.kept hk (fun y hy=>by simp;rintro rfl;exact h6 hy),h4,h5,h6⟩,h7,h8⟩
theorem Mid.acc (h:Mid w x g p L F m mx an W) {m':MemD} {r:Value} {f:Nat} {args:Array Value} (hc:∀ F',RepM W p m L F'→Calls Tryz.prog f args W (AccPost p m' L F' r W)) :
   Calls Tryz.prog f args W (fun e W'=>e=.returned r∧Mid w x g p (L+1) F m' mx an W'):=by
 obtain ⟨k,h1,h2,⟨F',h3,h4,h5,h6⟩,h7,h8⟩:=h
 refine (hc F' h3).mono ?_
 rintro e W' ⟨rfl,F2,r2,k2,f2⟩
 have hle:=k.size
 refine ⟨rfl,k.trans k2 (fun y hy=>?_),k2.heap h1 h5,k2.heap h2 h6,⟨F2,r2,h4.trans f2 hle,fresh_not f2 h5 (heap_lt h1),fresh_not f2 h6 (heap_lt h2)⟩,h7,h8⟩
 rcases h4 y hy with h | h
 · exact .inl (List.mem_cons_of_mem _ h)
 · exact .inr h
theorem Mid.step (h:Mid w x g p L F m mx an W) {m':MemD} {a:AnsD} {mx':Obj} {R:World→Prop} {f:Nat} {args:Array Value} (hc:∀ F',RepM W p m L F'→x ∉ F'→Calls Tryz.prog f args W (StepOf x p L F' R a m' W)) (hR:∀ W',R W'→W'.heap[x]?=some mx') :
   Calls Tryz.prog f args W (fun e W'=>e=.returned a.val∧Mid w x g p (L+1) F m' mx' an W'):=by
 obtain ⟨k,h1,h2,⟨F',h3,h4,h5,h6⟩,h7,h8⟩:=h
 refine (hc F' h3 h5).mono ?_
 rintro e W' ⟨rfl,hr,F2,r2,k2,f2⟩
 refine ⟨rfl,k.trans k2 (fun y hy=>?_),hR _ hr,k2.heap h2 (fun hm=>?_),⟨F2,r2,h4.trans f2 k.size,fresh_not f2 h5 (heap_lt h1),fresh_not f2 h6 (heap_lt h2)⟩,h7,h8⟩
 · rcases List.mem_cons.1 hy with rfl | hy
   · exact .inl List.mem_cons_self
   · rcases h4 y hy with h | h
     · exact .inl (List.mem_cons_of_mem _ h)
     · exact .inr h
 · rcases List.mem_cons.1 hm with rfl | hm
   · omega
   · exact h6 hm
theorem Mid.fin {a:AnsD} {R:World→Prop} (h:Mid w x g p (L+1) F m mx an W) (hR:W.heap[x]?=some mx→R W):StepOf x p L F R a m w (.returned a.val) W:=by
 obtain ⟨k,h1,h2,⟨F',h3,h4,h5,h6⟩,h7,h8⟩:=h
 exact ⟨rfl,hR h1,F',h3,k,h4⟩
theorem Mid.rep (h:Mid w x g p L F m mx an W):∃ F',RepM W p m L F':=by
 obtain ⟨F',h3,_⟩:=h.mem
 exact ⟨F',h3⟩
theorem Mid.sizes (h:Mid w x g p L F m mx an W):Calls Tryz.prog 39 #[ptr p] W (fun e W'=>e=.returned (.tuple #[.int .i64 m.cells.length,.int .i64 m.ring])∧Mid w x g p L F m mx an W'):=by
 obtain ⟨F',h3⟩:=h.rep
 refine (Sizes_m h3).mono ?_
 rintro e W' ⟨rfl,hb⟩
 exact ⟨rfl,h.below hb⟩
theorem Mid.loadHead (h:Mid w x g p L F m mx an W) (th s:Int) (hL:L≤1073741824):Calls Tryz.prog 215 #[ptr p,.int .i64 th,addrV 2 (slotI s m.ring) 0] W (fun e W'=>e=.returned (.tuple #[.int .i64 (m.head s),.int .i64 0])∧Mid w x g p (L+1) F m mx an W') :=
 h.acc fun _ hr=>Load_head th s hr hL
theorem Mid.loadNewest (h:Mid w x g p L F m mx an W) (th:Int) (hL:L≤1073741824):Calls Tryz.prog 215 #[ptr p,.int .i64 th,addrV 1 0 0] W (fun e W'=>e=.returned (.tuple #[.int .i64 m.newest,.int .i64 0])∧Mid w x g p (L+1) F m mx an W') :=
 h.acc fun _ hr=>Load_newest th hr hL
theorem Mid.loadSig (h:Mid w x g p L F m mx an W) (th s j:Int) (hj:0≤j∧j < 8) (hL:L≤1073741824):Calls Tryz.prog 215 #[ptr p,.int .i64 th,addrV 3 (slotI s m.ring) j] W (fun e W'=>e=.returned (.tuple #[.int .i64 (m.sig s j),.int .i64 0])∧Mid w x g p (L+1) F m mx an W') :=
 h.acc fun _ hr=>Load_sig th s j hj hr hL
theorem Mid.loadCell (h:Mid w x g p L F m mx an W) (th c:Int) (hc:0≤c∧c < m.cells.length) (hL:L≤1073741824):Calls Tryz.prog 215 #[ptr p,.int .i64 th,addrV 4 c 0] W (fun e W'=>e=.returned (.tuple #[.int .i64 (m.cells.getD c.toNat 0),.int .i64 0])∧Mid w x g p (L+1) F m mx an W') :=
 h.acc fun _ hr=>Load_cell th c hc hr hL
theorem Mid.cell {cs:Array Value} {t:TypeId} (h:Mid w x g p L F m (.cells cs t (0,0)) an W) (i:Nat):W.cell? ⟨x,i,none⟩=cs[i]?:=cell_of_row W x i _ _ _ h.mach
theorem Mid.froz {cs:Array Value} {t:TypeId} (h:Mid w x g p L F m (.cells cs t (0,0)) an W) (i:Nat):W.frozen? ⟨x,i,none⟩=false:=frozen_of_row W x i _ _ h.mach
theorem Mid.ansBox {a b c d:Value} {t:TypeId} (h:Mid w x g p L F m mx (.cells #[a,b,c,d] t (0,0)) W) :
   (W.cell? ⟨g,0,none⟩=some a∧W.cell? ⟨g,1,none⟩=some b∧W.cell? ⟨g,2,none⟩=some c∧W.cell? ⟨g,3,none⟩=some d) ∧
   (W.frozen? ⟨g,0,none⟩=false∧W.frozen? ⟨g,1,none⟩=false∧W.frozen? ⟨g,2,none⟩=false∧W.frozen? ⟨g,3,none⟩=false):=box4a h.ans
def ansO (a:AnsD):Obj:=.cells #[.int .i64 a.kind,.int .i64 a.err,.int .i64 a.value,.bool a.access] 35 (0,0)
theorem Mid.ret {a0 b0 c0 d0:Value} {f:Func} {Q:Ending→World→Prop} {act:Act} {q:Tmp} (a:AnsD) (hres:f.results=#[.cell q 35])
   (h:Mid w x g p L F m mx (.cells #[a0,b0,c0,d0] 35 (0,0)) W) (hg:act.tmps.getD q undef=.pointer (some ⟨g,0,none⟩)) (hd:act.defers=[])
   (hQ:∀ W',Mid w x g p L F m mx (ansO a) W'→Q (.returned a.val) W') :
   bodyPost Tryz.prog f Q .ret act ((((W.setCell ⟨g,0,none⟩ (.int .i64 a.kind)).setCell ⟨g,1,none⟩ (.int .i64 a.err)).setCell ⟨g,2,none⟩ (.int .i64 a.value)).setCell ⟨g,3,none⟩ (.bool a.access)):=by
 have h4:=(((h.put 0 (.int .i64 a.kind)).put 1 (.int .i64 a.err)).put 2 (.int .i64 a.value)).put 3 (.bool a.access)
 exact bodyPost_ret (results_cell_row hres _ _ _ _ _ _ _ hg h4.ans Tryz.underlying35 rfl infoAns) hd (hQ _ h4)
end
section
open Go.RowKit
structure Comp where
 foot:List Nat
 holds:World→Prop
 loc:∀ W W',(∀ x∈foot,W'.heap[x]?=W.heap[x]?)→holds W→holds W'
 lt:∀ W,holds W→∀ x∈foot,x < W.heap.size
def feet (Cs:List Comp):List Nat:=Cs.flatMap (·.foot)
structure Sep (w:World) (X:List Nat) (Cs:List Comp) (W:World):Prop where
 kept:Kept X w W
 holds:∀ c∈Cs,c.holds W
 apart:(feet Cs).Nodup
 src:Fresh w.heap.size X (feet Cs)
variable {w:World} {X:List Nat} {Cs C1 C2:List Comp} {a b c d:Comp} {W W':World}
theorem feet_cons (a:Comp) (Cs:List Comp):feet (a::Cs)=a.foot++feet Cs:=rfl
theorem feet_append (C1 C2:List Comp):feet (C1++C2)=feet C1++feet C2:=List.flatMap_append
theorem mem_feet {x:Nat}:x∈feet Cs↔∃ c∈Cs,x∈c.foot:=List.mem_flatMap
theorem Sep.lt (h:Sep w X Cs W):∀ x∈feet Cs,x < W.heap.size:=fun x hx=>by
 obtain ⟨c,hc,hx⟩:=mem_feet.1 hx
 exact c.lt W (h.holds c hc) x hx
theorem Sep.h0 (h:Sep w X (a::Cs) W):a.holds W:=h.holds _ List.mem_cons_self
theorem Sep.h1 (h:Sep w X (a::b::Cs) W):b.holds W:=h.holds _ (List.mem_cons_of_mem _ List.mem_cons_self)
theorem Sep.h2 (h:Sep w X (a::b::c::Cs) W):c.holds W:=h.holds _ (List.mem_cons_of_mem _ (List.mem_cons_of_mem _ List.mem_cons_self))
theorem Sep.h3 (h:Sep w X (a::b::c::d::Cs) W):d.holds W:=h.holds _ (List.mem_cons_of_mem _ (List.mem_cons_of_mem _ (List.mem_cons_of_mem _ List.mem_cons_self)))
theorem sep_start (hh:∀ c∈Cs,c.holds w) (ha:(feet Cs).Nodup):Sep w (feet Cs) Cs w:=⟨Kept.refl _ _,hh,ha,Fresh.refl _ _⟩
theorem Sep.perm (h:Sep w X Cs W) (hp:Cs.Perm C1):Sep w X C1 W :=
 ⟨h.kept,fun c hc=>h.holds c (hp.mem_iff.2 hc),((hp.flatMap_right _).nodup_iff).1 h.apart,fun x hx=>h.src x (((hp.flatMap_right _).mem_iff).2 hx)⟩
theorem Sep.sw (h:Sep w X (a::b::Cs) W):Sep w X (b::a::Cs) W:=h.perm (List.Perm.swap b a Cs)
theorem Sep.f2 (h:Sep w X (a::b::c::Cs) W):Sep w X (c::a::b::Cs) W:=h.perm (((List.Perm.swap c b Cs).cons a).trans (List.Perm.swap c a (b::Cs)))
theorem Sep.f3 (h:Sep w X (a::b::c::d::Cs) W):Sep w X (d::a::b::c::Cs) W :=
 h.perm ((((List.Perm.swap d c Cs).cons b).cons a).trans (((List.Perm.swap d b (c::Cs)).cons a).trans (List.Perm.swap d a (b::c::Cs))))
theorem Sep.b2 (h:Sep w X (a::b::c::Cs) W):Sep w X (b::c::a::Cs) W:=h.perm ((List.Perm.swap b a (c::Cs)).trans ((List.Perm.swap c a Cs).cons b))
theorem Sep.s23 (h:Sep w X (a::b::c::Cs) W):Sep w X (a::c::b::Cs) W:=h.perm ((List.Perm.swap c b Cs).cons a)
theorem Sep.drop (h:Sep w X (a::Cs) W):Sep w X Cs W :=
 ⟨h.kept,fun c hc=>h.holds c (List.mem_cons_of_mem _ hc),by have:=h.apart;rw [feet_cons,List.nodup_append] at this;exact this.2.1,fun x hx=>h.src x (by rw [feet_cons];exact List.mem_append.2 (.inr hx))⟩
theorem Sep.call (h:Sep w X (C1++C2) W) {C3:List Comp} (k:Sep W (feet C1) C3 W'):Sep w X (C3++C2) W':=by
 have ha:=h.apart
 rw [feet_append,List.nodup_append] at ha
 obtain ⟨n1,n2,n3⟩:=ha
 have hl:=h.lt
 have hd:∀ x∈feet C2,x ∉ feet C1:=fun x hx hy=>n3 x hy x hx rfl
 refine ⟨h.kept.trans k.kept (fun x hx=>h.src x (by rw [feet_append];exact List.mem_append.2 (.inl hx))),fun c hc=>?_,?_,fun x hx=>?_⟩
 · rcases List.mem_append.1 hc with hc | hc
   · exact k.holds c hc
   · have hx:∀ x∈c.foot,x∈feet C2:=fun x hx=>mem_feet.2 ⟨c,hc,hx⟩
     exact c.loc W W' (fun x hxc=>k.kept.block x (hl x (by rw [feet_append];exact List.mem_append.2 (.inr (hx x hxc)))) (hd x (hx x hxc))) (h.holds c (List.mem_append.2 (.inr hc)))
 · rw [feet_append,List.nodup_append]
   refine ⟨k.apart,n2,fun x hx y hy e=>?_⟩
   subst e
   rcases k.src x hx with h1 | h1
   · exact hd x hy h1
   · have:=hl x (by rw [feet_append];exact List.mem_append.2 (.inr hy))
     omega
 · rw [feet_append] at hx
   rcases List.mem_append.1 hx with hx | hx
   · rcases k.src x hx with h1 | h1
     · exact h.src x (by rw [feet_append];exact List.mem_append.2 (.inl h1))
     · exact .inr (Nat.le_trans h.kept.size h1)
   · exact h.src x (by rw [feet_append];exact List.mem_append.2 (.inr hx))
theorem Sep.call1 (h:Sep w X (a::Cs) W) {C3:List Comp} (k:Sep W a.foot C3 W'):Sep w X (C3++Cs) W' :=
 Sep.call (C1:=[a]) h (by simpa [feet] using k)
theorem Sep.call2 (h:Sep w X (a::b::Cs) W) {C3:List Comp} (k:Sep W (a.foot++b.foot) C3 W'):Sep w X (C3++Cs) W' :=
 Sep.call (C1:=[a,b]) h (by simpa [feet] using k)
theorem Sep.below (h:Sep w X Cs W) (hb:Below W.heap.size W W'):Sep w X Cs W' :=
 Sep.call (C1:=[]) (C2:=Cs) (C3:=[]) h ⟨Kept.of_below hb _,(fun _ hc=>nomatch hc),List.nodup_nil,(fun _ hx=>nomatch hx)⟩
theorem Sep.drewN (h:Sep w X Cs W) (n:Nat):Sep w X Cs (W.drewN n):=h.below (below_drewN_ W n)
theorem Sep.drew (h:Sep w X Cs W):Sep w X Cs W.drew:=h.below ⟨rfl,rfl,rfl,Nat.le_refl _,fun _ _=>rfl⟩
theorem Sep.alloc (h:Sep w X Cs W) (o:Obj):Sep w X Cs (W.alloc o):=h.below (below_alloc W o)
theorem Sep.more (h:Sep w X Cs W) {C3:List Comp} (k:Sep W [] C3 W'):Sep w X (C3++Cs) W':=Sep.call (C1:=[]) (C2:=Cs) h k
def cBlk (x:Nat) (o:Obj):Comp:=⟨[x],fun W=>W.heap[x]?=some o,fun W W' h k=>(h x (by simp)).trans k,fun W k y hy=>by rw [List.mem_singleton.1 hy];exact heap_lt k⟩
def cMem (p:Nat) (m:MemD) (L:Nat) (F:List Nat):Comp:=⟨F,fun W=>RepM W p m L F,fun _ _ h k=>k.keep h,fun _ k=>k.lt⟩
def cRow (e:TypeId) (sz:Nat) (v:Value) (n:Nat) (xs:List Value):Comp:=⟨rowF v,fun W=>RowAt W e sz v n xs,fun _ _ h k=>k.keep h,fun _ k=>k.lt⟩
theorem repM_nodup {W:World} {p:Nat} {m:MemD} {L:Nat} {F:List Nat} (h:RepM W p m L F):F.Nodup:=by
 obtain ⟨hb,sb,cb,lv,rfl,h⟩:=h
 exact h.apart
theorem Sep.new (h:Sep w X Cs W) (o:Obj):Sep w X (cBlk W.heap.size o::Cs) (W.alloc o) :=
 h.more (C3:=[cBlk W.heap.size o]) ⟨(Kept.refl _ W).alloc _,fun c hc=>by rw [List.mem_singleton.1 hc];exact heap_new_at rfl,by simp [feet,cBlk],fun x hx=>by simp [feet,cBlk] at hx;exact .inr (by omega)⟩
theorem Sep.got (h:Sep w X Cs W) (hb:Below W.heap.size W W') {g:Nat} (hg:W.heap.size≤g) {o:Obj} (ho:W'.heap[g]?=some o):Sep w X (cBlk g o::Cs) W' :=
 h.more (C3:=[cBlk g o]) ⟨Kept.of_below hb _,fun c hc=>by rw [List.mem_singleton.1 hc];exact ho,by simp [feet,cBlk],fun x hx=>by simp [feet,cBlk] at hx;exact .inr (by omega)⟩
variable {x:Nat} {cs:Array Value} {t:TypeId} {o o':Obj}
theorem Sep.cell (h:Sep w X (cBlk x (.cells cs t (0,0))::Cs) W) (i:Nat):W.cell? ⟨x,i,none⟩=cs[i]?:=cell_of_row W x i _ _ _ h.h0
theorem Sep.froz (h:Sep w X (cBlk x (.cells cs t (0,0))::Cs) W) (i:Nat):W.frozen? ⟨x,i,none⟩=false:=frozen_of_row W x i _ _ h.h0
theorem Sep.cell1 (h:Sep w X (a::cBlk x (.cells cs t (0,0))::Cs) W) (i:Nat):W.cell? ⟨x,i,none⟩=cs[i]?:=cell_of_row W x i _ _ _ h.h1
theorem Sep.froz1 (h:Sep w X (a::cBlk x (.cells cs t (0,0))::Cs) W) (i:Nat):W.frozen? ⟨x,i,none⟩=false:=frozen_of_row W x i _ _ h.h1
theorem Sep.cell2 (h:Sep w X (a::b::cBlk x (.cells cs t (0,0))::Cs) W) (i:Nat):W.cell? ⟨x,i,none⟩=cs[i]?:=cell_of_row W x i _ _ _ h.h2
theorem Sep.chg (h:Sep w X (cBlk x o::Cs) W) (hk:Kept [x] W W') (ho:W'.heap[x]?=some o'):Sep w X (cBlk x o'::Cs) W' :=
 h.call1 (C3:=[cBlk x o']) ⟨hk,fun c hc=>by rw [List.mem_singleton.1 hc];exact ho,by simp [feet,cBlk],fun y hy=>by simp [feet,cBlk] at hy;exact .inl (by simp [cBlk,hy])⟩
theorem Sep.set (h:Sep w X (cBlk x (.cells cs t (0,0))::Cs) W) (i:Nat) (v:Value):Sep w X (cBlk x (.cells (cs.setIfInBounds i v) t (0,0))::Cs) (W.setCell ⟨x,i,none⟩ v) :=
 h.chg ((Kept.refl _ W).set (p:=⟨x,i,none⟩) (.inl (by simp)) v) (heap_set h.h0)
theorem Sep.set1 (h:Sep w X (a::cBlk x (.cells cs t (0,0))::Cs) W) (i:Nat) (v:Value):Sep w X (a::cBlk x (.cells (cs.setIfInBounds i v) t (0,0))::Cs) (W.setCell ⟨x,i,none⟩ v):=(h.sw.set i v).sw
theorem Sep.ne01 {y:Nat} {o2:Obj} (h:Sep w X (cBlk x o::cBlk y o2::Cs) W):x≠y:=fun e=>by
 have ha:=h.apart
 simp [feet,cBlk,e] at ha
theorem acc_sep {p:Nat} {m':MemD} {L:Nat} {F:List Nat} {r:Value} {e:Ending} (h:AccPost p m' L F r W e W'):e=.returned r∧∃ F',Sep W F [cMem p m' (L+1) F'] W':=by
 obtain ⟨h1,F',h2,h3,h4⟩:=h
 exact ⟨h1,F',h3,fun c hc=>by rw [List.mem_singleton.1 hc];exact h2,by simpa [feet,cMem] using repM_nodup h2,by simpa [feet,cMem] using h4⟩
theorem Sep.acc {p L:Nat} {m m':MemD} {F:List Nat} {r:Value} {f:Nat} {args:Array Value} (h:Sep w X (cMem p m L F::Cs) W) (hc:RepM W p m L F→Calls Tryz.prog f args W (AccPost p m' L F r W)) :
   Calls Tryz.prog f args W (fun e W'=>e=.returned r∧∃ F',Sep w X (cMem p m' (L+1) F'::Cs) W') :=
 (hc h.h0).mono fun e W' hh=>by
   obtain ⟨he,F',k⟩:=acc_sep hh
   exact ⟨he,F',h.call1 k⟩
theorem step_sep {p:Nat} {m':MemD} {L:Nat} {F:List Nat} {a:AnsD} {e:Ending} {R:World→Prop} (h:StepOf x p L F R a m' W e W') (hR:∀ W',R W'→W'.heap[x]?=some o') (hx:x ∉ F) (hl:x < W.heap.size) :
   e=.returned a.val∧∃ F',Sep W (x::F) [cBlk x o',cMem p m' (L+1) F'] W':=by
 obtain ⟨h1,hr,F',h2,h3,h4⟩:=h
 refine ⟨h1,F',h3,fun c hc=>?_,?_,fun y hy=>?_⟩
 · simp only [List.mem_cons,List.not_mem_nil,or_false] at hc
   rcases hc with rfl | rfl
   · exact hR _ hr
   · exact h2
 · simp only [feet,cBlk,cMem,List.flatMap_cons,List.flatMap_nil,List.append_nil,List.singleton_append,List.nodup_cons]
   exact ⟨fresh_not h4 hx hl,repM_nodup h2⟩
 · simp only [feet,cBlk,cMem,List.flatMap_cons,List.flatMap_nil,List.append_nil,List.singleton_append,List.mem_cons] at hy
   rcases hy with rfl | hy
   · exact .inl List.mem_cons_self
   · rcases h4 y hy with h | h
     · exact .inl (List.mem_cons_of_mem _ h)
     · exact .inr h
theorem Sep.step {p L:Nat} {m m':MemD} {F:List Nat} {r:AnsD} {R:World→Prop} {f:Nat} {args:Array Value} (h:Sep w X (cBlk x o::cMem p m L F::Cs) W) (hc:RepM W p m L F→x ∉ F→Calls Tryz.prog f args W (StepOf x p L F R r m' W))
   (hR:∀ W',R W'→W'.heap[x]?=some o'):Calls Tryz.prog f args W (fun e W'=>e=.returned r.val∧∃ F',Sep w X (cBlk x o'::cMem p m' (L+1) F'::Cs) W'):=by
 have ha:=h.apart
 have hx:x ∉ F:=by
   simp only [feet,cBlk,cMem,List.flatMap_cons,List.singleton_append,List.nodup_cons,List.mem_append,not_or] at ha
   exact ha.1.1
 refine (hc h.h1 hx).mono fun e W' hh=>?_
 obtain ⟨he,F',k⟩:=step_sep hh hR hx (heap_lt h.h0)
 exact ⟨he,F',h.call2 (by simpa [cBlk,cMem] using k)⟩
theorem Sep.sizes {p L:Nat} {m:MemD} {F:List Nat} (h:Sep w X (cMem p m L F::Cs) W):Calls Tryz.prog 39 #[ptr p] W (fun e W'=>e=.returned (.tuple #[.int .i64 m.cells.length,.int .i64 m.ring])∧Sep w X (cMem p m L F::Cs) W'):=by
 refine (Sizes_m h.h0).mono ?_
 rintro e W' ⟨rfl,hb⟩
 exact ⟨rfl,h.below hb⟩
theorem Sep.loadHead {p L:Nat} {m:MemD} {F:List Nat} (h:Sep w X (cMem p m L F::Cs) W) (th s:Int) (hL:L≤1073741824):Calls Tryz.prog 215 #[ptr p,.int .i64 th,addrV 2 (slotI s m.ring) 0] W (fun e W'=>e=.returned (.tuple #[.int .i64 (m.head s),.int .i64 0])∧∃ F',Sep w X (cMem p m (L+1) F'::Cs) W') :=
 h.acc fun hr=>Load_head th s hr hL
theorem Sep.loadNewest {p L:Nat} {m:MemD} {F:List Nat} (h:Sep w X (cMem p m L F::Cs) W) (th:Int) (hL:L≤1073741824):Calls Tryz.prog 215 #[ptr p,.int .i64 th,addrV 1 0 0] W (fun e W'=>e=.returned (.tuple #[.int .i64 m.newest,.int .i64 0])∧∃ F',Sep w X (cMem p m (L+1) F'::Cs) W') :=
 h.acc fun hr=>Load_newest th hr hL
theorem Sep.loadSig {p L:Nat} {m:MemD} {F:List Nat} (h:Sep w X (cMem p m L F::Cs) W) (th s j:Int) (hj:0≤j∧j < 8) (hL:L≤1073741824):Calls Tryz.prog 215 #[ptr p,.int .i64 th,addrV 3 (slotI s m.ring) j] W (fun e W'=>e=.returned (.tuple #[.int .i64 (m.sig s j),.int .i64 0])∧∃ F',Sep w X (cMem p m (L+1) F'::Cs) W') :=
 h.acc fun hr=>Load_sig th s j hj hr hL
theorem Sep.loadCell {p L:Nat} {m:MemD} {F:List Nat} (h:Sep w X (cMem p m L F::Cs) W) (th c:Int) (hc:0≤c∧c < m.cells.length) (hL:L≤1073741824):Calls Tryz.prog 215 #[ptr p,.int .i64 th,addrV 4 c 0] W (fun e W'=>e=.returned (.tuple #[.int .i64 (m.cells.getD c.toNat 0),.int .i64 0])∧∃ F',Sep w X (cMem p m (L+1) F'::Cs) W') :=
 h.acc fun hr=>Load_cell th c hc hr hL
theorem Sep.storeHead {p L:Nat} {m:MemD} {F:List Nat} (h:Sep w X (cMem p m L F::Cs) W) (th s v:Int) (hv:I64 v) (hL:L≤1073741824):Calls Tryz.prog 175 #[ptr p,.int .i64 th,addrV 2 (slotI s m.ring) 0,.int .i64 v] W (fun e W'=>e=.returned (.int .i64 0)∧∃ F',Sep w X (cMem p (m.setHead s v) (L+1) F'::Cs) W') :=
 h.acc fun hr=>Store_head th s v hv hr hL
theorem Sep.storeSig {p L:Nat} {m:MemD} {F:List Nat} (h:Sep w X (cMem p m L F::Cs) W) (th s j v:Int) (hj:0≤j∧j < 8) (hv:I64 v) (hL:L≤1073741824):Calls Tryz.prog 175 #[ptr p,.int .i64 th,addrV 3 (slotI s m.ring) j,.int .i64 v] W (fun e W'=>e=.returned (.int .i64 0)∧∃ F',Sep w X (cMem p (m.setSig s j v) (L+1) F'::Cs) W') :=
 h.acc fun hr=>Store_sig th s j v hj hv hr hL
theorem Sep.storeCell {p L:Nat} {m:MemD} {F:List Nat} (h:Sep w X (cMem p m L F::Cs) W) (th c v:Int) (hc:0≤c∧c < m.cells.length) (hv:I64 v) (hL:L≤1073741824):Calls Tryz.prog 175 #[ptr p,.int .i64 th,addrV 4 c 0,.int .i64 v] W (fun e W'=>e=.returned (.int .i64 0)∧∃ F',Sep w X (cMem p (m.setCell c v) (L+1) F'::Cs) W') :=
 h.acc fun hr=>Store_cell th c v hc hv hr hL
theorem Sep.swap {p L:Nat} {m:MemD} {F:List Nat} (h:Sep w X (cMem p m L F::Cs) W) (th old v:Int) (hv:I64 v) (hL:L≤1073741824):Calls Tryz.prog 282 #[ptr p,.int .i64 th,addrV 1 0 0,.int .i64 old,.int .i64 v] W
   (fun e W'=>e=.returned (.tuple #[.bool (decide (m.newest=old)),.int .i64 0])∧∃ F',Sep w X (cMem p (if m.newest=old then { m with newest:=v } else m) (L+1) F'::Cs) W') :=
 h.acc fun hr=>Swap_newest th old v hv hr hL
theorem Sep.ret {a0 b0 c0 d0:Value} {f:Func} {Q:Ending→World→Prop} {act:Act} {q:Tmp} {g:Nat} (a:AnsD) (hres:f.results=#[.cell q 35])
   (h:Sep w X (cBlk g (.cells #[a0,b0,c0,d0] 35 (0,0))::Cs) W) (hg:act.tmps.getD q undef=.pointer (some ⟨g,0,none⟩)) (hd:act.defers=[])
   (hQ:∀ W',Sep w X Cs W'→Q (.returned a.val) W') :
   bodyPost Tryz.prog f Q .ret act ((((W.setCell ⟨g,0,none⟩ (.int .i64 a.kind)).setCell ⟨g,1,none⟩ (.int .i64 a.err)).setCell ⟨g,2,none⟩ (.int .i64 a.value)).setCell ⟨g,3,none⟩ (.bool a.access)):=by
 have h4:=(((h.set 0 (.int .i64 a.kind)).set 1 (.int .i64 a.err)).set 2 (.int .i64 a.value)).set 3 (.bool a.access)
 exact bodyPost_ret (results_cell_row hres _ _ _ _ _ _ _ hg h4.h0 Tryz.underlying35 rfl infoAns) hd (hQ _ h4.drop)
theorem Sep.retA {a0 b0 c0 d0:Value} {f:Func} {Q:Ending→World→Prop} {act:Act} {q:Tmp} {g:Nat} (a:AnsD) (hres:f.results=#[.cell q 35])
   (h:Sep w X (cBlk g (.cells #[a0,b0,c0,d0] 35 (0,0))::Cs) W) (hg:act.tmps.getD q undef=.pointer (some ⟨g,0,none⟩)) (hd:act.defers=[]) (o:Obj)
   (hQ:∀ W',Sep w X Cs W'→Q (.returned a.val) W') :
   bodyPost Tryz.prog f Q .ret act (((((W.setCell ⟨g,0,none⟩ (.int .i64 a.kind)).setCell ⟨g,1,none⟩ (.int .i64 a.err)).setCell ⟨g,2,none⟩ (.int .i64 a.value)).setCell ⟨g,3,none⟩ (.bool a.access)).alloc o):=by
 have h4:=((((h.set 0 (.int .i64 a.kind)).set 1 (.int .i64 a.err)).set 2 (.int .i64 a.value)).set 3 (.bool a.access)).alloc o
 exact bodyPost_ret (results_cell_row hres _ _ _ _ _ _ _ hg h4.h0 Tryz.underlying35 rfl infoAns) hd (hQ _ h4.drop)
theorem Sep.ansBox {a b c d:Value} {t:TypeId} {g:Nat} (h:Sep w X (cBlk g (.cells #[a,b,c,d] t (0,0))::Cs) W) :
   (W.cell? ⟨g,0,none⟩=some a∧W.cell? ⟨g,1,none⟩=some b∧W.cell? ⟨g,2,none⟩=some c∧W.cell? ⟨g,3,none⟩=some d) ∧
   (W.frozen? ⟨g,0,none⟩=false∧W.frozen? ⟨g,1,none⟩=false∧W.frozen? ⟨g,2,none⟩=false∧W.frozen? ⟨g,3,none⟩=false):=box4a h.h0
end
section
open Go.RowKit
def cPack (P:List Comp→Prop) (F:List Nat):Comp where
 foot:=F
 holds W:=∃ Ds,P Ds∧feet Ds=F∧(feet Ds).Nodup∧∀ c∈Ds,c.holds W
 loc W W' h k:=by
   obtain ⟨Ds,h1,h2,h3,h4⟩:=k
   refine ⟨Ds,h1,h2,h3,fun c hc=>c.loc W W' (fun x hx=>h x ?_) (h4 c hc)⟩
   rw [← h2]
   exact mem_feet.2 ⟨c,hc,hx⟩
 lt W k x hx:=by
   obtain ⟨Ds,h1,h2,h3,h4⟩:=k
   rw [← h2] at hx
   obtain ⟨c,hc,hx⟩:=mem_feet.1 hx
   exact c.lt W (h4 c hc) x hx
variable {w:World} {X F:List Nat} {Cs Ds:List Comp} {W W':World} {P P':List Comp→Prop}
theorem Sep.unpack (h:Sep w X (cPack P F::Cs) W):∃ Ds,P Ds∧feet Ds=F∧Sep w X (Ds++Cs) W:=by
 obtain ⟨Ds,h1,h2,h3,h4⟩:=(h.h0:(cPack P F).holds W)
 refine ⟨Ds,h1,h2,h.kept,fun c hc=>?_,?_,fun x hx=>?_⟩
 · rcases List.mem_append.1 hc with hc | hc
   · exact h4 c hc
   · exact h.holds c (List.mem_cons_of_mem _ hc)
 · have ha:=h.apart
   rw [feet_append,h2]
   rwa [feet_cons] at ha
 · rw [feet_append,h2] at hx
   exact h.src x (by rw [feet_cons];exact hx)
theorem Sep.pack (hP:P Ds) (h:Sep w X (Ds++Cs) W):Sep w X (cPack P (feet Ds)::Cs) W:=by
 have ha:=h.apart
 refine ⟨h.kept,fun c hc=>?_,by rw [feet_cons];rwa [feet_append] at ha,fun x hx=>h.src x (by rw [feet_append];rwa [feet_cons] at hx)⟩
 rcases List.mem_cons.1 hc with rfl | hc
 · refine ⟨Ds,hP,rfl,?_,fun c hc=>h.holds c (List.mem_append.2 (.inl hc))⟩
   rw [feet_append,List.nodup_append] at ha
   exact ha.1
 · exact h.holds c (List.mem_append.2 (.inr hc))
theorem Sep.pull (As:List Comp) {b:Comp} {Bs:List Comp} (h:Sep w X (As++b::Bs) W):Sep w X (b::(As++Bs)) W:=h.perm List.perm_middle
theorem Sep.push (As:List Comp) {b:Comp} {Bs:List Comp} (h:Sep w X (b::(As++Bs)) W):Sep w X (As++b::Bs) W:=h.perm List.perm_middle.symm
theorem Sep.turn (As Bs:List Comp) (h:Sep w X (As++(Bs++Cs)) W):Sep w X (Bs++(As++Cs)) W:=h.perm (List.perm_append_comm_assoc As Bs Cs)
theorem cell_off (W:World) (b i j:Nat) (v:Value) (h:i≠j):(W.setCell ⟨b,i,none⟩ v).cell? ⟨b,j,none⟩=W.cell? ⟨b,j,none⟩ :=
 World.cell?_setCell_other W _ _ v (fun e=>h (by first | simpa using e | simpa using e.symm))
end
section
def ints (xs:List Int):List Value:=xs.map (.int .i64)
def cI (v:Value) (xs:List Int):Comp:=cRow 2 1 v xs.length (ints xs)
end
end Go.Proofs.YtgfogfciobmmpaaGreatDoor
