/- A part of the proof of the law TopTells: Base Data. -/
import Derived.WalkKit
import Derived.BigQuiet
import Derived.Deep.QuietTactic
import Derived.Laws.Bits64b
set_option linter.unusedSimpArgs false
set_option linter.unusedVariables false
set_option maxRecDepth 100000
set_option maxHeartbeats 8000000
namespace Go.Proofs.YtgfogfciobmmpaaGreatDoor
theorem gA {α : Type _} {xs : List α} {i : Nat} : xs.toArray[i]? = xs[i]? := List.getElem?_toArray
theorem gZ {α : Type _} {a : α} {as : List α} : (a :: as)[0]? = some a := List.getElem?_cons_zero
theorem gS {α : Type _} {a : α} {as : List α} {i : Nat} : (a :: as)[i + 1]? = as[i]? := List.getElem?_cons_succ
theorem kH {p : Prop} (h : p) : RowKit.Hid p := h
end Go.Proofs.YtgfogfciobmmpaaGreatDoor
namespace Go.Proofs.YtgfogfciobmmpaaGreatDoor
section
open Go.RowKit
structure WantS where
 kind:Int
 cell:Int
 value:Int
 code:Int
def WantS.val (x:WantS):Value:=.agg #[.int .i64 x.kind,.int .i64 x.cell,.int .i64 x.value,.int .i64 x.code]
def w0:WantS:=⟨0,0,0,0⟩
def readS (cell:Int):WantS:=⟨2,cell,0,0⟩
def putS (cell v:Int):WantS:=⟨3,cell,v,0⟩
def Gives (v:Value) (w:World) (e:Ending) (w':World):Prop:=e=.returned v∧Below w.heap.size w w'
def Just (v:Value) (w:World) (e:Ending) (w':World):Prop:=e=.returned v∧w=w'
theorem below_alloc (w:World) (o:Obj):Below w.heap.size w (w.alloc o):=(Below.refl _ _).alloc (Nat.le_refl _) _
theorem below_trans {a b c:World} (h:Below a.heap.size a b) (k:Below b.heap.size b c):Below a.heap.size a c:=h.trans (k.mono h.size)
theorem below_alloc_of {w w':World} (h:Below w.heap.size w w') (o:Obj):Below w.heap.size w (w'.alloc o):=h.alloc h.size _
def Reads (w:World) (B:Nat) (v:Value) (xs:List Int):Prop :=
 xs.length≤17592186043904∧(∀ x∈xs,-9223372036854775808≤x∧x≤9223372036854775807) ∧
 ∃ (a:Option Addr) (c:Nat),v=.slice a xs.length c∧xs.length≤c ∧
   (xs=[]∨∃ b off,a=some ⟨b,off,none⟩∧b < B∧∀ i,i < xs.length→w.cell? ⟨b,off+i,none⟩=some (.int .i64 (xs.getD i 0)))
theorem Reads.below {w w':World} {B:Nat} {v:Value} {xs:List Int} (h:Reads w B v xs) (hb:Below B w w'):Reads w' B v xs:=by
 obtain ⟨h1,h2,a,c,rfl,hc,h3⟩:=h
 refine ⟨h1,h2,a,c,rfl,hc,?_⟩
 rcases h3 with h3 | ⟨b,off,rfl,hB,hcell⟩
 · exact .inl h3
 · exact .inr ⟨b,off,rfl,hB,fun i hi=>(hb.cell (p:=⟨b,off+i,none⟩) hB).trans (hcell i hi)⟩
theorem Reads.mono {w:World} {B B':Nat} {v:Value} {xs:List Int} (h:Reads w B v xs) (hb:B≤B'):Reads w B' v xs:=by
 obtain ⟨h1,h2,a,c,rfl,hc,h3⟩:=h
 refine ⟨h1,h2,a,c,rfl,hc,?_⟩
 rcases h3 with h3 | ⟨b,off,rfl,hB,hcell⟩
 · exact .inl h3
 · exact .inr ⟨b,off,rfl,by omega,hcell⟩
theorem reads_nil (w:World) (B:Nat):Reads w B (.slice none 0 0) []:=⟨by simp,by simp,none,0,rfl,by simp,.inl rfl⟩
theorem heap_new {w:World} {o:Obj} {n:Nat} (h:n=w.heap.size):(w.alloc o).heap[n]?=some o:=by subst h;exact Go.heap_alloc_new w o
theorem kO {w:World} {o x:Obj} {n:Nat} (h:w.heap[n]?=some x):(w.alloc o).heap[n]?=some x:=by
 rw [Go.RowKit.Below.heap_alloc w o n (Array.getElem?_eq_some_iff.1 h).1];exact h
theorem heap_set {w:World} {p i:Nat} {cs:Array Value} {t:TypeId} {v:Value} (h:w.heap[p]?=some (.cells cs t (0,0))) :
   (w.setCell ⟨p,i,none⟩ v).heap[p]?=some (.cells (cs.setIfInBounds i v) t (0,0)):=heap_setCell_same w p i cs t v h
theorem heap_set_other {w:World} {q:Addr} {n:Nat} {x:Obj} {v:Value} (h:w.heap[n]?=some x) (hne:n≠q.block):(w.setCell q v).heap[n]?=some x:=by
 rw [heap_setCell_other w q n v hne];exact h
theorem grown_refl (w:World) (r:Option Nat):w.grownBy w r:=⟨rfl,rfl,rfl,Nat.le_refl _,fun _ _ _=>rfl⟩
theorem grown_set {a w:World} {p i:Nat} (h:a.grownBy w (some p)) (v:Value):a.grownBy (w.setCell ⟨p,i,none⟩ v) (some p) :=
 ⟨h.os,h.tape,h.output,by simpa [World.setCell] using h.size,fun k hk hne=>(heap_setCell_other w ⟨p,i,none⟩ k v (fun e=>hne (by rw [e]))).trans (h.block k hk hne)⟩
theorem grown_alloc {a w:World} {r:Option Nat} (h:a.grownBy w r) (o:Obj):a.grownBy (w.alloc o) r :=
 ⟨h.os,h.tape,h.output,by have:=h.size;simp;omega,fun k hk hne=>(Go.RowKit.Below.heap_alloc w o k (Nat.lt_of_lt_of_le hk h.size)).trans (h.block k hk hne)⟩
theorem grown_drewN {a w:World} {r:Option Nat} (h:a.grownBy w r) (n:Nat):a.grownBy (w.drewN n) r:=⟨h.os,h.tape,h.output,h.size,h.block⟩
theorem grown_drew {a w:World} {r:Option Nat} (h:a.grownBy w r):a.grownBy w.drew r:=⟨h.os,h.tape,h.output,h.size,h.block⟩
theorem box_keep {W w1:World} (hb:Below W.heap.size W w1) {g:Nat} {o:Obj} (h:W.heap[g]?=some o):w1.heap[g]?=some o :=
 (hb.block g (Array.getElem?_eq_some_iff.1 h).1).trans h
theorem box_grown {W w1:World} {p:Nat} (hb:W.grownBy w1 (some p)) {g:Nat} {o:Obj} (h:W.heap[g]?=some o) (hne:g≠p):w1.heap[g]?=some o :=
 (hb.block g (Array.getElem?_eq_some_iff.1 h).1 (fun e=>hne (by injection e))).trans h
theorem box4 {w:World} {g:Nat} {a b c d:Value} {t:TypeId} (h:w.heap[g]?=some (.cells #[a,b,c,d] t (0,0))) :
   (w.cell? ⟨g,0,none⟩=some a∧w.cell? ⟨g,1,none⟩=some b∧w.cell? ⟨g,2,none⟩=some c∧w.cell? ⟨g,3,none⟩=some d) ∧
   (w.frozen? ⟨g,0,none⟩=false∧w.frozen? ⟨g,1,none⟩=false∧w.frozen? ⟨g,2,none⟩=false∧w.frozen? ⟨g,3,none⟩=false)∧g < w.heap.size:=by
 have hc:=fun j=>cell_of_row w g j _ _ _ h
 have hf:=fun j=>frozen_of_row w g j _ _ h
 refine ⟨⟨?_,?_,?_,?_⟩,⟨hf 0,hf 1,hf 2,hf 3⟩,(Array.getElem?_eq_some_iff.1 h).1⟩
 · simpa using hc 0
 · simpa using hc 1
 · simpa using hc 2
 · simpa using hc 3
end
section
open Go.RowKit
def zero8:List Int:=[0,0,0,0,0,0,0,0]
def slotI (stamp size:Int):Int:=stamp % size
def stampH (h:Int):Int:=h / 2
def doneH (h:Int):Bool:=decide (h % 2=1)
def overH (h s:Int):Bool:=decide (s < 1∨s < stampH h∨(stampH h=s∧doneH h=true))
def freeH (h s size:Int):Bool:=decide (s < size∨overH h (s - size)=true)
def headI (s:Int) (d:Bool):Int:=if d=true then 2 * s+1 else 2 * s
def un64 (x:Int):Int:=x % 18446744073709551616
def si64 (x:Int):Int:=if x < 9223372036854775808 then x else x - 18446744073709551616
def share (w r:Int):Bool:=decide (bits .and .u64 (un64 w) r≠0)
def nextW (r:List Int):Nat→Nat→Nat
 | 0,j=>j
 | f+1,j=>if j < 8∧r.getD j 0=0 then nextW r f (j+1) else j
structure MemD where
 newest:Int
 heads:List Int
 sigs:List Int
 cells:List Int
def MemD.ring (m:MemD):Int:=m.heads.length
def MemD.head (m:MemD) (s:Int):Int:=m.heads.getD (slotI s m.ring).toNat 0
def MemD.sig (m:MemD) (s j:Int):Int:=m.sigs.getD (slotI s m.ring * 8+j).toNat 0
def MemD.setHead (m:MemD) (s v:Int):MemD:={ m with heads:=m.heads.set (slotI s m.ring).toNat v }
def MemD.setSig (m:MemD) (s j v:Int):MemD:={ m with sigs:=m.sigs.set (slotI s m.ring * 8+j).toNat v }
def MemD.setCell (m:MemD) (c v:Int):MemD:={ m with cells:=m.cells.set c.toNat v }
structure AnsD where
 kind:Int
 err:Int
 value:Int
 access:Bool
def ansNone:AnsD:=⟨0,0,0,false⟩
def moved:AnsD:=⟨2,0,0,true⟩
def waits:AnsD:=⟨1,0,0,true⟩
def doneA (v:Int):AnsD:=⟨3,0,v,true⟩
def failA (e:Int):AnsD:=⟨4,e,0,true⟩
structure BegD where
 size:Int
 state:Int
 seen:Int
 at_:Int
def begStep (m:MemD) (b:BegD):AnsD×BegD :=
 if b.state=2 then (ansNone,b)
 else if b.state=0 then
   (if m.newest < 1 then (doneA 0,⟨b.size,2,m.newest,0⟩) else (moved,⟨b.size,1,m.newest,m.newest⟩))
 else if overH (m.head b.at_) b.at_=true then (doneA 0,{ b with state:=2 })
 else if b.at_ - 1 < 1∨b.at_ - 1=b.seen - b.size then (doneA 0,{ b with state:=2,at_:=b.at_ - 1 })
 else (moved,{ b with at_:=b.at_ - 1 })
structure ChkD where
 size:Int
 from_:Int
 reads:List Int
 last:Bool
 state:Int
 start:Int
 seen:Int
 at_:Int
 word:Int
def newChk (size from_:Int) (reads:List Int) (last:Bool):ChkD:=⟨size,from_,reads,last,0,from_,0,0,0⟩
def farC (c:ChkD) (n:Int):Bool:=decide (c.from_ < n∧c.size < n - c.from_)
def chkStep (m:MemD) (c:ChkD):AnsD×ChkD :=
 if 4≤c.state then (ansNone,c)
 else if c.state=0 then
   (if c.reads=zero8∨m.newest≤c.from_ then (doneA 0,{ c with seen:=m.newest,state:=4 })
   else if farC c m.newest=true then (failA 4,{ c with seen:=m.newest,state:=5 })
   else (moved,{ c with seen:=m.newest,at_:=c.from_+1,state:=1 }))
 else if c.state=1 then
   (if stampH (m.head c.at_) < c.at_ then (waits,c)
   else if c.at_ < stampH (m.head c.at_) then (failA 4,{ c with state:=5 })
   else (moved,{ c with start:=if doneH (m.head c.at_)=true∧c.start=c.at_ - 1 then c.at_ else c.start,word:=nextW c.reads 8 0,state:=2 }))
 else if c.state=2 then
   (if share (m.sig c.at_ c.word) (c.reads.getD c.word.toNat 0)=true then (failA 3,{ c with state:=5 })
   else if nextW c.reads 8 (c.word.toNat+1) < 8 then (moved,{ c with word:=nextW c.reads 8 (c.word.toNat+1),state:=2 })
   else if c.at_ < c.seen then (moved,{ c with word:=nextW c.reads 8 (c.word.toNat+1),at_:=c.at_+1,state:=1 })
   else if c.last=true then (moved,{ c with word:=nextW c.reads 8 (c.word.toNat+1),state:=3 })
   else (doneA 0,{ c with word:=nextW c.reads 8 (c.word.toNat+1),state:=4 }))
 else if farC c m.newest=true then (failA 4,{ c with state:=5 })
 else (doneA 0,{ c with state:=4 })
structure FetD where
 chk:ChkD
 cell:Int
 read:Bool
 value:Int
def withVal (a:AnsD) (v:Int):AnsD:=⟨a.kind,a.err,v,a.access⟩
def fetStep (m:MemD) (x:FetD):AnsD×FetD :=
 if x.read=false then (moved,{ x with value:=m.cells.getD x.cell.toNat 0,read:=true })
 else (if (chkStep m x.chk).1.kind=3 then withVal (chkStep m x.chk).1 x.value else (chkStep m x.chk).1,{ x with chk:=(chkStep m x.chk).2 })
structure ComD where
 ring:Int
 stamps:Int
 multi:Bool
 start:Int
 seen:Int
 reads:List Int
 chk:ChkD
 state:Int
 stamp:Int
def comStep (m:MemD) (c:ComD):AnsD×ComD×MemD :=
 if 3≤c.state then (ansNone,c,m)
 else if c.state=0 then
   (if (chkStep m c.chk).1.kind=4 then ((chkStep m c.chk).1,{ c with chk:=(chkStep m c.chk).2,state:=4 },m)
   else if (chkStep m c.chk).1.kind=3 then
     (if (chkStep m c.chk).2.seen < 0∨c.stamps≤(chkStep m c.chk).2.seen then (failA 6,{ c with chk:=(chkStep m c.chk).2,seen:=(chkStep m c.chk).2.seen,state:=4 },m)
     else if c.multi=true∨1≤(chkStep m c.chk).2.seen then (moved,{ c with chk:=(chkStep m c.chk).2,seen:=(chkStep m c.chk).2.seen,state:=1 },m)
     else (moved,{ c with chk:=(chkStep m c.chk).2,seen:=(chkStep m c.chk).2.seen,state:=2 },m))
   else ((chkStep m c.chk).1,{ c with chk:=(chkStep m c.chk).2 },m))
 else if c.state=1 then
   (if (if c.multi=true then freeH (m.head (c.seen+1)) (c.seen+1) c.ring else overH (m.head c.seen) c.seen)=true then (moved,{ c with state:=2 },m) else (waits,c,m))
 else if m.newest=c.seen then (doneA (c.seen+1),{ c with state:=3,stamp:=c.seen+1 },{ m with newest:=c.seen+1 })
 else (moved,{ c with chk:=newChk c.ring c.start c.reads false,state:=0 },m)
structure BakD where
 size:Int
 multi:Bool
 stamp:Int
 l:List (Int×Int)
 sig:List Int
 most:Int
 left:Nat
 laid:Nat
 at_:Int
 word:Int
 known:Bool
 next:Nat
def readyB (b:BakD):BakD:={ b with next:=if 0 < b.left then 4 else if b.known=false then 5 else 6 }
def olderB (b:BakD) (s:Int):BakD:=if s < 1∨s≤b.stamp - b.size then readyB { b with at_:=s } else { b with at_:=s,next:=1 }
def overB (b:BakD):BakD:=readyB { b with known:=decide (b.at_=b.stamp - 1) }
def wordingB (b:BakD) (j:Nat):BakD :=
 if nextW b.sig 8 j < 8 then { b with word:=nextW b.sig 8 j,next:=2 } else olderB { b with word:=nextW b.sig 8 j } (b.at_ - 1)
def bakStep (m:MemD) (b:BakD):AnsD×BakD×MemD :=
 match b.next with
 | 0=>if b.laid < 8 then (moved,{ b with laid:=b.laid+1 },m.setSig b.stamp b.laid (si64 (b.sig.getD b.laid 0)))
   else (moved,if b.known=true then readyB b else olderB b (b.stamp - 1),m.setHead b.stamp (headI b.stamp false))
 | 1=>if overH (m.head b.at_) b.at_=true then (moved,overB b,m) else if stampH (m.head b.at_)=b.at_ then (moved,wordingB b 0,m) else (waits,b,m)
 | 2=>if share (m.sig b.at_ b.word) (b.sig.getD b.word.toNat 0)=true then (moved,{ b with next:=3 },m) else (moved,wordingB b (b.word.toNat+1),m)
 | 3=>if overH (m.head b.at_) b.at_=true then (moved,overB b,m) else (waits,b,m)
 | 4=>(moved,readyB { b with left:=b.left - 1 },m.setCell (b.l.getD (b.l.length - b.left) (0,0)).1 (b.l.getD (b.l.length - b.left) (0,0)).2)
 | 5=>if overH (m.head (b.stamp - 1)) (b.stamp - 1)=true then (moved,readyB { b with known:=true },m) else (waits,b,m)
 | 6=>(doneA 0,{ b with next:=7 },m.setHead b.stamp (headI b.stamp true))
 | _=>(ansNone,b,m)
structure EvD where
 kind:Int
 cell:Int
 value:Int
 own:Bool
 start:Int
 seen:Int
 stamp:Int
 sig:List Int
 err:Int
def ev0:EvD:=⟨0,0,0,false,0,0,0,zero8,0⟩
inductive WayD
 | no
 | beg (b:BegD)
 | fet (f:FetD)
 | com (c:ComD)
 | bak (b:BakD)
structure TxD where
 ring:Int
 writes:Int
 stamps:Int
 multi:Bool
 list:List (Int×Int)
 wrote:List Int
 phase:Int
 start:Int
 seen:Int
 reads:List Int
 cell:Int
 stamp:Int
 way:WayD
 told:List EvD
def newTx (ring writes stamps:Int) (multi:Bool):TxD:=⟨ring,writes,stamps,multi,[],zero8,0,0,0,zero8,0,0,.no,[]⟩
def withBit (s:List Int) (k:Nat):List Int:=s.set (k / 64) (bits .or .u64 (s.getD (k / 64) 0) (2 ^ (k % 64):Nat))
def mixG (s c d x:Nat):Nat :=
 (((x ^^^ x / s) * c % 18446744073709551616 ^^^ (x ^^^ x / s) * c % 18446744073709551616 / s) * d % 18446744073709551616) ^^^
   (((x ^^^ x / s) * c % 18446744073709551616 ^^^ (x ^^^ x / s) * c % 18446744073709551616 / s) * d % 18446744073709551616) / s
def mixN (x:Nat):Nat:=mixG 8589934592 18397679294719823053 14181476777654086739 x
def hashC (cell:Int):Nat:=mixN (un64 cell).toNat / 36028797018963968
def withC (s:List Int) (cell:Int):List Int:=withBit s (hashC cell)
def tellT (t:TxD) (e:EvD):TxD:={ t with told:=t.told++[e] }
def overT (t:TxD):TxD:={ t with list:=[],wrote:=zero8,phase:=0,way:=.no,start:=0,seen:=0,reads:=zero8 }
def endT (t:TxD) (e:Int) (access:Bool):AnsD×TxD :=
 (if e=0 then ⟨3,0,0,access⟩ else ⟨4,e,0,access⟩,overT (tellT t { ev0 with kind:=6,err:=e,start:=t.start,seen:=t.seen,sig:=t.reads }))
def goOnT (t:TxD) (a:AnsD) (through:TxD→AnsD×TxD):AnsD×TxD :=
 if a.kind=4 then endT t a.err a.access else if a.kind=3 then through t else (a,t)
def sigOf (l:List (Int×Int)):List Int:=l.foldl (fun s w=>withC s w.1) zero8
def mostOf (l:List (Int×Int)):Int:=l.foldl (fun s w=>if s < w.1 then w.1 else s) 0
def newBak (ring:Int) (multi:Bool) (stamp:Int) (l:List (Int×Int)):BakD :=
 ⟨ring,multi,stamp,l,sigOf l,mostOf l,l.length,0,0,0,multi=false∨ring=1∨stamp=1,0⟩
def txStep (m:MemD) (t:TxD):AnsD×TxD×MemD :=
 match t.way with
 | .no=>(ansNone,t,m)
 | .beg b =>
   let r:=goOnT { t with way:=.beg (begStep m b).2 } (begStep m b).1 fun t =>
     ((begStep m b).1,tellT { t with start:=(begStep m b).2.at_,seen:=(begStep m b).2.seen,phase:=2,way:=.no } { ev0 with kind:=1,start:=(begStep m b).2.at_,seen:=(begStep m b).2.seen })
   (r.1,r.2,m)
 | .fet x =>
   let r:=goOnT { t with way:=.fet (fetStep m x).2 } (fetStep m x).1 fun t =>
     ((fetStep m x).1,tellT { t with start:=(fetStep m x).2.chk.start,seen:=(fetStep m x).2.chk.seen,phase:=2,way:=.no } { ev0 with kind:=2,cell:=t.cell,value:=(fetStep m x).1.value,start:=(fetStep m x).2.chk.start,seen:=(fetStep m x).2.chk.seen })
   (r.1,r.2,m)
 | .com c =>
   let r:=goOnT { t with way:=.com (comStep m c).2.1 } (comStep m c).1 fun t =>
     (⟨2,0,0,(comStep m c).1.access⟩,tellT { t with stamp:=(comStep m c).1.value,way:=.bak (newBak t.ring t.multi (comStep m c).1.value t.list),phase:=5 } { ev0 with kind:=4,stamp:=(comStep m c).1.value,sig:=t.wrote })
   (r.1,r.2,(comStep m c).2.2)
 | .bak b =>
   let r:=goOnT { t with way:=.bak (bakStep m b).2.1 } (bakStep m b).1 fun t =>
     ((bakStep m b).1,overT (tellT t { ev0 with kind:=5,stamp:=t.stamp }))
   (r.1,r.2,(bakStep m b).2.2)
structure WantD where
 kind:Int
 cell:Int
 value:Int
 code:Int
def ownT (l:List (Int×Int)) (c:Int):Option Int:=(l.find? fun w=>w.1 == c).map (·.2)
def putT (l:List (Int×Int)) (c v:Int):List (Int×Int):=if (l.any fun w=>w.1 == c)=true then l.map (fun w=>if w.1=c then (c,v) else w) else l++[(c,v)]
def fitsT (m:MemD) (t:TxD) (x:WantD):Bool :=
 decide (m.ring=t.ring) &&
   (if x.kind=1 then decide (t.phase=0)
   else if x.kind=2∨x.kind=3 then decide (t.phase=2∧0≤x.cell∧x.cell < m.cells.length)
   else if x.kind=4 then decide (t.phase=2)
   else if x.kind=5 then decide (t.phase=2∧(x.code=8∨x.code=7))
   else false)
def txDo (m:MemD) (t:TxD) (x:WantD):AnsD×TxD×MemD :=
 if fitsT m t x=false then (⟨4,1,0,false⟩,t,m)
 else if x.kind=1 then txStep m (tellT { t with way:=.beg ⟨t.ring,0,0,0⟩,phase:=1 } { ev0 with kind:=7 })
 else if x.kind=2 then
   (match ownT t.list x.cell with
   | some v=>(⟨3,0,v,false⟩,tellT t { ev0 with kind:=2,cell:=x.cell,value:=v,own:=true,start:=t.start,seen:=t.seen },m)
   | none=>txStep m { t with reads:=withC t.reads x.cell,cell:=x.cell,way:=.fet ⟨newChk t.ring t.start (withC t.reads x.cell) true,x.cell,false,0⟩,phase:=3 })
 else if x.kind=3 then
   (if (ownT t.list x.cell).isNone=true∧(t.list.length:Int)=t.writes then ((endT t 5 false).1,(endT t 5 false).2,m)
   else (⟨3,0,0,false⟩,tellT { t with list:=putT t.list x.cell x.value,wrote:=withC t.wrote x.cell } { ev0 with kind:=3,cell:=x.cell,value:=x.value },m))
 else if x.kind=4 then
   (if t.list=[] then ((endT t 0 false).1,(endT t 0 false).2,m)
   else txStep m { t with way:=.com ⟨t.ring,t.stamps,t.multi,t.start,0,t.reads,newChk t.ring t.start t.reads false,0,0⟩,phase:=4 })
 else ((endT t x.code false).1,(endT t x.code false).2,m)
end
end Go.Proofs.YtgfogfciobmmpaaGreatDoor
