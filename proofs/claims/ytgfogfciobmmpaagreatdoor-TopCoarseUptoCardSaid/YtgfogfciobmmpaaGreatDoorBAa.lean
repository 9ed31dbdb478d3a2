/- A part of the proof of a law of carouseltop: Base Data Ok App Kept Leaf Sig Mem Acc. -/
import Derived.WalkKit
import Derived.BigQuiet
import Derived.Deep.QuietTactic
import Derived.Laws.Bits64b
import Derived.Lib.Hide
import Derived.Test.YtgfogfciobmmpaaGreatDoorProg
import Derived.KernelRfl
import Derived.BigRegion
import Derived.Deep.RegionLaw
import Derived.Deep.AppendLies
import Derived.OwnWalk
set_option linter.unusedSimpArgs false
set_option linter.unusedVariables false
set_option maxRecDepth 100000
set_option maxHeartbeats 8000000
namespace Go.Proofs.YtgfogfciobmmpaaGreatDoor
theorem gA {α : Type _} {xs : List α} {i : Nat} : xs.toArray[i]? = xs[i]? := List.getElem?_toArray
theorem gZ {α : Type _} {a : α} {ls : List α} : (a :: ls)[0]? = some a := List.getElem?_cons_zero
theorem gS {α : Type _} {a : α} {ls : List α} {i : Nat} : (a :: ls)[i + 1]? = ls[i]? := List.getElem?_cons_succ
theorem kH {p : Prop} (h : p) : RowKit.Hid p := h
end Go.Proofs.YtgfogfciobmmpaaGreatDoor
namespace Go.Proofs.YtgfogfciobmmpaaGreatDoor
open Go.RowKit
structure ax where
 kind:Int
 cell:Int
 value:Int
 code:Int
def ax.val(x:ax):Value:=.agg #[.int .i64 x.kind,.int .i64 x.cell,.int .i64 x.value,.int .i64 x.code]
def w0:ax:=⟨0,0,0,0⟩
def bV(cell:Int):ax:=⟨2,cell,0,0⟩
def bN(cell v:Int):ax:=⟨3,cell,v,0⟩
def dd(v:Value)(w:World)(e:Ending)(w':World):Prop:=e=.returned v/\Below w.heap.size w w'
def dm(v:Value)(w:World)(e:Ending)(w':World):Prop:=e=.returned v/\w=w'
theorem ai(w:World)(o:Obj):Below w.heap.size w (w.alloc o):=(Below.refl _ _).alloc (Nat.le_refl _) _
theorem dK{a b c:World}(h:Below a.heap.size a b)(k:Below b.heap.size b c):Below a.heap.size a c:=h.trans (k.mono h.size)
theorem bA{w w':World}(h:Below w.heap.size w w')(o:Obj):Below w.heap.size w (w'.alloc o):=h.alloc h.size _
def kf(w:World)(B:Nat)(v:Value)(xs:List Int):Prop :=
 xs.length<=17592186043904/\(∀ x∈xs,-9223372036854775808<=x/\x<=9223372036854775807) /\
 ∃ (a:Option Addr) (c:Nat),v=.slice a xs.length c/\xs.length<=c /\
  (xs=[]\/∃ b off,a=some ⟨b,off,none⟩/\b<B/\∀ i,i<xs.length->w.cell? ⟨b,off+i,none⟩=some (.int .i64 (xs.getD i 0)))
theorem kf.below{w w':World}{B:Nat}{v:Value}{xs:List Int}(h:kf w B v xs)(hb:Below B w w'):kf w' B v xs:=by
 obtain⟨h1,h2,a,c,rfl,hc,h3⟩:=h
 refine⟨h1,h2,a,c,rfl,hc,?_⟩
 rcases h3 with h3|⟨b,off,rfl,hB,hcell⟩
 ·exact .inl h3
 ·exact .inr ⟨b,off,rfl,hB,fun i hi=>(hb.cell (p:=⟨b,off+i,none⟩) hB).trans (hcell i hi)⟩
theorem kf.mono{w:World}{B B':Nat}{v:Value}{xs:List Int}(h:kf w B v xs)(hb:B<=B'):kf w B' v xs:=by
 obtain⟨h1,h2,a,c,rfl,hc,h3⟩:=h
 refine⟨h1,h2,a,c,rfl,hc,?_⟩
 rcases h3 with h3|⟨b,off,rfl,hB,hcell⟩
 ·exact .inl h3
 ·exact .inr ⟨b,off,rfl,by omega,hcell⟩
theorem AA(w:World)(B:Nat):kf w B (.slice none 0 0) []:=⟨by simp,by simp,none,0,rfl,by simp,.inl rfl⟩
theorem aj{w:World}{o:Obj}{n:Nat}(h:n=w.heap.size):(w.alloc o).heap[n]?=some o:=by subst h;exact Go.heap_alloc_new w o
theorem kO{w:World}{o x:Obj}{n:Nat}(h:w.heap[n]?=some x):(w.alloc o).heap[n]?=some x:=by
 rw[Go.RowKit.Below.heap_alloc w o n (Array.getElem?_eq_some_iff.1 h).1];exact h
theorem ab{w:World}{p i:Nat}{cs:Array Value}{t:TypeId}{v:Value}(h:w.heap[p]?=some (.cells cs t (0,0))) :
  (w.setCell ⟨p,i,none⟩ v).heap[p]?=some (.cells (cs.setIfInBounds i v) t (0,0)):=heap_setCell_same w p i cs t v h
theorem al{w:World}{q:Addr}{n:Nat}{x:Obj}{v:Value}(h:w.heap[n]?=some x)(hne:n≠q.block):(w.setCell q v).heap[n]?=some x:=by
 rw[heap_setCell_other w q n v hne];exact h
theorem ay(w:World)(r:Option Nat):w.grownBy w r:=⟨rfl,rfl,rfl,Nat.le_refl _,fun _ _ _=>rfl⟩
theorem bD{a w:World}{p i:Nat}(h:a.grownBy w (some p))(v:Value):a.grownBy (w.setCell ⟨p,i,none⟩ v) (some p) :=
 ⟨h.os,h.tape,h.output,by simpa[World.setCell]using h.size,fun k hk hne=>(heap_setCell_other w ⟨p,i,none⟩ k v (fun e=>hne (by rw[e]))).trans (h.block k hk hne)⟩
theorem az{a w:World}{r:Option Nat}(h:a.grownBy w r)(o:Obj):a.grownBy (w.alloc o) r :=
 ⟨h.os,h.tape,h.output,by have:=h.size;simp;omega,fun k hk hne=>(Go.RowKit.Below.heap_alloc w o k (Nat.lt_of_lt_of_le hk h.size)).trans (h.block k hk hne)⟩
theorem aF{a w:World}{r:Option Nat}(h:a.grownBy w r)(n:Nat):a.grownBy (w.drewN n) r:=⟨h.os,h.tape,h.output,h.size,h.block⟩
theorem aJ{a w:World}{r:Option Nat}(h:a.grownBy w r):a.grownBy w.drew r:=⟨h.os,h.tape,h.output,h.size,h.block⟩
theorem kM{W w1:World}(hb:Below W.heap.size W w1){g:Nat}{o:Obj}(h:W.heap[g]?=some o):w1.heap[g]?=some o :=
 (hb.block g (Array.getElem?_eq_some_iff.1 h).1).trans h
theorem aq{W w1:World}{p:Nat}(hb:W.grownBy w1 (some p)){g:Nat}{o:Obj}(h:W.heap[g]?=some o)(hne:g≠p):w1.heap[g]?=some o :=
 (hb.block g (Array.getElem?_eq_some_iff.1 h).1 (fun e=>hne (by injection e))).trans h
theorem bB{w:World}{g:Nat}{a b c d:Value}{t:TypeId}(h:w.heap[g]?=some (.cells #[a,b,c,d] t (0,0))) :
  (w.cell? ⟨g,0,none⟩=some a/\w.cell? ⟨g,1,none⟩=some b/\w.cell? ⟨g,2,none⟩=some c/\w.cell? ⟨g,3,none⟩=some d) /\
  (w.frozen? ⟨g,0,none⟩=false/\w.frozen? ⟨g,1,none⟩=false/\w.frozen? ⟨g,2,none⟩=false/\w.frozen? ⟨g,3,none⟩=false)/\g<w.heap.size:=by
 have hc:=fun j=>cell_of_row w g j _ _ _ h
 have hf:=fun j=>frozen_of_row w g j _ _ h
 refine⟨⟨?_,?_,?_,?_⟩,⟨hf 0,hf 1,hf 2,hf 3⟩,(Array.getElem?_eq_some_iff.1 h).1⟩
 ·simpa using hc 0
 ·simpa using hc 1
 ·simpa using hc 2
 ·simpa using hc 3
def bQ:List Int:=[0,0,0,0,0,0,0,0]
def bI(stamp size:Int):Int:=stamp%size
def bK(h:Int):Int:=h/2
def iP(h:Int):Bool:=decide (h%2=1)
def dq(h s:Int):Bool:=decide (s<1\/s<bK h\/(bK h=s/\iP h=true))
def gF(h s size:Int):Bool:=decide (s<size\/dq h (s-size)=true)
def ea(s:Int)(d:Bool):Int:=if d=true then 2*s+1 else 2*s
def fZ(x:Int):Int:=x%18446744073709551616
def iA(x:Int):Int:=if x<9223372036854775808 then x else x-18446744073709551616
def ks(w r:Int):Bool:=decide (bits .and .u64 (fZ w) r≠0)
def cq(r:List Int):Nat->Nat->Nat
 | 0,j=>j
 | f+1,j=>if j<8/\r.getD j 0=0 then cq r f (j+1)else j
structure au where
 newest:Int
 heads:List Int
 sigs:List Int
 cells:List Int
def au.ring(m:au):Int:=m.heads.length
def au.head(m:au)(s:Int):Int:=m.heads.getD (bI s m.ring).toNat 0
def au.sig(m:au)(s j:Int):Int:=m.sigs.getD (bI s m.ring*8+j).toNat 0
def au.setHead(m:au)(s v:Int):au:={m with heads:=m.heads.set (bI s m.ring).toNat v}
def au.setSig(m:au)(s j v:Int):au:={m with sigs:=m.sigs.set (bI s m.ring*8+j).toNat v}
def au.setCell(m:au)(c v:Int):au:={m with cells:=m.cells.set c.toNat v}
structure aM where
 kind:Int
 err:Int
 value:Int
 access:Bool
def db:aM:=⟨0,0,0,false⟩
def moved:aM:=⟨2,0,0,true⟩
def waits:aM:=⟨1,0,0,true⟩
def aW(v:Int):aM:=⟨3,0,v,true⟩
def bi(e:Int):aM:=⟨4,e,0,true⟩
structure nT where
 size:Int
 state:Int
 seen:Int
 at_:Int
def bU(m:au)(b:nT):aM×nT :=
 if b.state=2 then(db,b)
 else if b.state=0 then
  (if m.newest<1 then(aW 0,⟨b.size,2,m.newest,0⟩)else(moved,⟨b.size,1,m.newest,m.newest⟩))
 else if dq (m.head b.at_) b.at_=true then(aW 0,{b with state:=2})
 else if b.at_-1<1\/b.at_-1=b.seen-b.size then(aW 0,{b with state:=2,at_:=b.at_-1})
 else(moved,{b with at_:=b.at_-1})
structure eD where
 size:Int
 from_:Int
 reads:List Int
 last:Bool
 state:Int
 start:Int
 seen:Int
 at_:Int
 word:Int
def bJ(size from_:Int)(reads:List Int)(last:Bool):eD:=⟨size,from_,reads,last,0,from_,0,0,0⟩
def nk(c:eD)(n:Int):Bool:=decide (c.from_<n/\c.size<n-c.from_)
def aE(m:au)(c:eD):aM×eD :=
 if 4<=c.state then(db,c)
 else if c.state=0 then
  (if c.reads=bQ\/m.newest<=c.from_ then(aW 0,{c with seen:=m.newest,state:=4})
  else if nk c m.newest=true then(bi 4,{c with seen:=m.newest,state:=5})
  else(moved,{c with seen:=m.newest,at_:=c.from_+1,state:=1}))
 else if c.state=1 then
  (if bK (m.head c.at_)<c.at_ then(waits,c)
  else if c.at_<bK (m.head c.at_)then(bi 4,{c with state:=5})
  else(moved,{c with start:=if iP (m.head c.at_)=true/\c.start=c.at_-1 then c.at_ else c.start,word:=cq c.reads 8 0,state:=2}))
 else if c.state=2 then
  (if ks (m.sig c.at_ c.word) (c.reads.getD c.word.toNat 0)=true then(bi 3,{c with state:=5})
  else if cq c.reads 8 (c.word.toNat+1)<8 then(moved,{c with word:=cq c.reads 8 (c.word.toNat+1),state:=2})
  else if c.at_<c.seen then(moved,{c with word:=cq c.reads 8 (c.word.toNat+1),at_:=c.at_+1,state:=1})
  else if c.last=true then(moved,{c with word:=cq c.reads 8 (c.word.toNat+1),state:=3})
  else(aW 0,{c with word:=cq c.reads 8 (c.word.toNat+1),state:=4}))
 else if nk c m.newest=true then(bi 4,{c with state:=5})
 else(aW 0,{c with state:=4})
structure lL where
 chk:eD
 cell:Int
 read:Bool
 value:Int
def zh(a:aM)(v:Int):aM:=⟨a.kind,a.err,v,a.access⟩
def bj(m:au)(x:lL):aM×lL :=
 if x.read=false then(moved,{x with value:=m.cells.getD x.cell.toNat 0,read:=true})
 else(if(aE m x.chk).1.kind=3 then zh (aE m x.chk).1 x.value else(aE m x.chk).1,{x with chk:=(aE m x.chk).2})
structure iG where
 ring:Int
 stamps:Int
 multi:Bool
 start:Int
 seen:Int
 reads:List Int
 chk:eD
 state:Int
 stamp:Int
def aT(m:au)(c:iG):aM×iG×au :=
 if 3<=c.state then(db,c,m)
 else if c.state=0 then
  (if(aE m c.chk).1.kind=4 then((aE m c.chk).1,{c with chk:=(aE m c.chk).2,state:=4},m)
  else if(aE m c.chk).1.kind=3 then
   (if(aE m c.chk).2.seen<0\/c.stamps<=(aE m c.chk).2.seen then(bi 6,{c with chk:=(aE m c.chk).2,seen:=(aE m c.chk).2.seen,state:=4},m)
   else if c.multi=true\/1<=(aE m c.chk).2.seen then(moved,{c with chk:=(aE m c.chk).2,seen:=(aE m c.chk).2.seen,state:=1},m)
   else(moved,{c with chk:=(aE m c.chk).2,seen:=(aE m c.chk).2.seen,state:=2},m))
  else((aE m c.chk).1,{c with chk:=(aE m c.chk).2},m))
 else if c.state=1 then
  (if(if c.multi=true then gF (m.head (c.seen+1)) (c.seen+1) c.ring else dq (m.head c.seen) c.seen)=true then(moved,{c with state:=2},m)else(waits,c,m))
 else if m.newest=c.seen then(aW (c.seen+1),{c with state:=3,stamp:=c.seen+1},{m with newest:=c.seen+1})
 else(moved,{c with chk:=bJ c.ring c.start c.reads false,state:=0},m)
structure cR where
 size:Int
 multi:Bool
 stamp:Int
 l:List (Int×Int)
 sig:List Int
 most:Int
 left:Nat
 laid:Nat
 at_:Int
 word:Int
 known:Bool
 next:Nat
def cW(b:cR):cR:={b with next:=if 0<b.left then 4 else if b.known=false then 5 else 6}
def dj(b:cR)(s:Int):cR:=if s<1\/s<=b.stamp-b.size then cW {b with at_:=s} else {b with at_:=s,next:=1}
def su(b:cR):cR:=cW {b with known:=decide (b.at_=b.stamp-1)}
def cV(b:cR)(j:Nat):cR :=
 if cq b.sig 8 j<8 then {b with word:=cq b.sig 8 j,next:=2} else dj {b with word:=cq b.sig 8 j} (b.at_-1)
def aR(m:au)(b:cR):aM×cR×au :=
 match b.next with
 | 0=>if b.laid<8 then(moved,{b with laid:=b.laid+1},m.setSig b.stamp b.laid (iA (b.sig.getD b.laid 0)))
  else(moved,if b.known=true then cW b else dj b (b.stamp-1),m.setHead b.stamp (ea b.stamp false))
 | 1=>if dq (m.head b.at_) b.at_=true then(moved,su b,m)else if bK (m.head b.at_)=b.at_ then(moved,cV b 0,m)else(waits,b,m)
 | 2=>if ks (m.sig b.at_ b.word) (b.sig.getD b.word.toNat 0)=true then(moved,{b with next:=3},m)else(moved,cV b (b.word.toNat+1),m)
 | 3=>if dq (m.head b.at_) b.at_=true then(moved,su b,m)else(waits,b,m)
 | 4=>(moved,cW {b with left:=b.left-1},m.setCell (b.l.getD (b.l.length-b.left) (0,0)).1 (b.l.getD (b.l.length-b.left) (0,0)).2)
 | 5=>if dq (m.head (b.stamp-1)) (b.stamp-1)=true then(moved,cW {b with known:=true},m)else(waits,b,m)
 | 6=>(aW 0,{b with next:=7},m.setHead b.stamp (ea b.stamp true))
 | _=>(db,b,m)
structure bM where
 kind:Int
 cell:Int
 value:Int
 own:Bool
 start:Int
 seen:Int
 stamp:Int
 sig:List Int
 err:Int
def fd:bM:=⟨0,0,0,false,0,0,0,bQ,0⟩
inductive WayD
 | no
 | beg (b:nT)
 | fet (f:lL)
 | com (c:iG)
 | bak (b:cR)
structure bZ where
 ring:Int
 writes:Int
 stamps:Int
 multi:Bool
 list:List (Int×Int)
 wrote:List Int
 phase:Int
 start:Int
 seen:Int
 reads:List Int
 cell:Int
 stamp:Int
 way:WayD
 told:List bM
def cZ(ring writes stamps:Int)(multi:Bool):bZ:=⟨ring,writes,stamps,multi,[],bQ,0,0,0,bQ,0,0,.no,[]⟩
def cT(s:List Int)(k:Nat):List Int:=s.set (k/64) (bits .or .u64 (s.getD (k/64) 0) (2 ^ (k%64):Nat))
def vt(s c d x:Nat):Nat :=
 (((x ^^^ x/s)*c%18446744073709551616 ^^^ (x ^^^ x/s)*c%18446744073709551616/s)*d%18446744073709551616) ^^^
  (((x ^^^ x/s)*c%18446744073709551616 ^^^ (x ^^^ x/s)*c%18446744073709551616/s)*d%18446744073709551616)/s
def oz(x:Nat):Nat:=vt 8589934592 18397679294719823053 14181476777654086739 x
def ek(cell:Int):Nat:=oz (fZ cell).toNat/36028797018963968
def be(s:List Int)(cell:Int):List Int:=cT s (ek cell)
def bO(t:bZ)(e:bM):bZ:={t with told:=t.told++[e]}
def gu(t:bZ):bZ:={t with list:=[],wrote:=bQ,phase:=0,way:=.no,start:=0,seen:=0,reads:=bQ}
def de(t:bZ)(e:Int)(access:Bool):aM×bZ :=
 (if e=0 then⟨3,0,0,access⟩else⟨4,e,0,access⟩,gu (bO t {fd with kind:=6,err:=e,start:=t.start,seen:=t.seen,sig:=t.reads}))
def eF(t:bZ)(a:aM)(through:bZ->aM×bZ):aM×bZ :=
 if a.kind=4 then de t a.err a.access else if a.kind=3 then through t else(a,t)
def dZ(l:List (Int×Int)):List Int:=l.foldl (fun s w=>be s w.1) bQ
def jI(l:List (Int×Int)):Int:=l.foldl (fun s w=>if s<w.1 then w.1 else s) 0
def cX(ring:Int)(multi:Bool)(stamp:Int)(l:List (Int×Int)):cR :=
 ⟨ring,multi,stamp,l,dZ l,jI l,l.length,0,0,0,multi=false\/ring=1\/stamp=1,0⟩
def aP(m:au)(t:bZ):aM×bZ×au :=
 match t.way with
 | .no=>(db,t,m)
 | .beg b =>
  let r:=eF {t with way:=.beg (bU m b).2} (bU m b).1 fun t =>
   ((bU m b).1,bO {t with start:=(bU m b).2.at_,seen:=(bU m b).2.seen,phase:=2,way:=.no} {fd with kind:=1,start:=(bU m b).2.at_,seen:=(bU m b).2.seen})
  (r.1,r.2,m)
 | .fet x =>
  let r:=eF {t with way:=.fet (bj m x).2} (bj m x).1 fun t =>
   ((bj m x).1,bO {t with start:=(bj m x).2.chk.start,seen:=(bj m x).2.chk.seen,phase:=2,way:=.no} {fd with kind:=2,cell:=t.cell,value:=(bj m x).1.value,start:=(bj m x).2.chk.start,seen:=(bj m x).2.chk.seen})
  (r.1,r.2,m)
 | .com c =>
  let r:=eF {t with way:=.com (aT m c).2.1} (aT m c).1 fun t =>
   (⟨2,0,0,(aT m c).1.access⟩,bO {t with stamp:=(aT m c).1.value,way:=.bak (cX t.ring t.multi (aT m c).1.value t.list),phase:=5} {fd with kind:=4,stamp:=(aT m c).1.value,sig:=t.wrote})
  (r.1,r.2,(aT m c).2.2)
 | .bak b =>
  let r:=eF {t with way:=.bak (aR m b).2.1} (aR m b).1 fun t =>
   ((aR m b).1,gu (bO t {fd with kind:=5,stamp:=t.stamp}))
  (r.1,r.2,(aR m b).2.2)
structure es where
 kind:Int
 cell:Int
 value:Int
 code:Int
def eR(l:List (Int×Int))(c:Int):Option Int:=(l.find? fun w=>w.1 == c).map (·.2)
def fT(l:List (Int×Int))(c v:Int):List (Int×Int):=if(l.any fun w=>w.1 == c)=true then l.map (fun w=>if w.1=c then(c,v)else w)else l++[(c,v)]
def cz(m:au)(t:bZ)(x:es):Bool :=
 decide (m.ring=t.ring) &&
  (if x.kind=1 then decide (t.phase=0)
  else if x.kind=2\/x.kind=3 then decide (t.phase=2/\0<=x.cell/\x.cell<m.cells.length)
  else if x.kind=4 then decide (t.phase=2)
  else if x.kind=5 then decide (t.phase=2/\(x.code=8\/x.code=7))
  else false)
def cB(m:au)(t:bZ)(x:es):aM×bZ×au :=
 if cz m t x=false then(⟨4,1,0,false⟩,t,m)
 else if x.kind=1 then aP m (bO {t with way:=.beg ⟨t.ring,0,0,0⟩,phase:=1} {fd with kind:=7})
 else if x.kind=2 then
  (match eR t.list x.cell with
  | some v=>(⟨3,0,v,false⟩,bO t {fd with kind:=2,cell:=x.cell,value:=v,own:=true,start:=t.start,seen:=t.seen},m)
  | none=>aP m {t with reads:=be t.reads x.cell,cell:=x.cell,way:=.fet ⟨bJ t.ring t.start (be t.reads x.cell) true,x.cell,false,0⟩,phase:=3})
 else if x.kind=3 then
  (if(eR t.list x.cell).isNone=true/\(t.list.length:Int)=t.writes then((de t 5 false).1,(de t 5 false).2,m)
  else(⟨3,0,0,false⟩,bO {t with list:=fT t.list x.cell x.value,wrote:=be t.wrote x.cell} {fd with kind:=3,cell:=x.cell,value:=x.value},m))
 else if x.kind=4 then
  (if t.list=[]then((de t 0 false).1,(de t 0 false).2,m)
  else aP m {t with way:=.com ⟨t.ring,t.stamps,t.multi,t.start,0,t.reads,bJ t.ring t.start t.reads false,0,0⟩,phase:=4})
 else((de t x.code false).1,(de t x.code false).2,m)
def aI(v:Int):Prop:=-9223372036854775808<=v/\v<=9223372036854775807
def uy(v:Int):Prop:=0<=v/\v<18446744073709551616
def aU(s:List Int):Prop:=s.length=8/\∀ x∈s,uy x
structure aY(m:au):Prop where
 new:aI m.newest
 ring:1<=m.heads.length/\m.heads.length<=16
 sigs:m.sigs.length=8*m.heads.length
 cells:1<=m.cells.length/\m.cells.length<=1024
 h64:∀ x∈m.heads,aI x
 s64:∀ x∈m.sigs,aI x
 c64:∀ x∈m.cells,aI x
theorem nh{l:List Int}(h:∀ x∈l,aI x)(i:Nat):aI (l.getD i 0):=by
 rw[List.getD_eq_getElem?_getD]
 rcases Nat.lt_or_ge i l.length with hi|hi
 ·rw[List.getElem?_eq_getElem hi];exact h _ (List.getElem_mem hi)
 ·rw[List.getElem?_eq_none hi];simp[aI]
theorem tu{l:List Int}(h:∀ x∈l,aI x)(i:Nat){v:Int}(hv:aI v):∀ x∈l.set i v,aI x:=fun x hx=>by
 rcases List.mem_or_eq_of_mem_set hx with h'|h'
 ·exact h x h'
 ·rw[h'];exact hv
theorem dx{l:List Int}(h:∀ x∈l,uy x)(i:Nat):uy (l.getD i 0):=by
 rw[List.getD_eq_getElem?_getD]
 rcases Nat.lt_or_ge i l.length with hi|hi
 ·rw[List.getElem?_eq_getElem hi];exact h _ (List.getElem_mem hi)
 ·rw[List.getElem?_eq_none hi];simp[uy]
theorem cD:aU bQ:=⟨rfl,fun x hx=>by
 unfold bQ at hx
 simp at hx
 subst hx
 unfold uy
 omega⟩
theorem u5{x:Int}(h:uy x):aI (iA x):=by
 unfold uy at h
 unfold iA aI
 split<;>omega
theorem mS(r:List Int):∀ (f j:Nat),j<=8->cq r f j<=8
 | 0,j,h=>h
 | f+1,j,h=>by
  unfold cq
  split
  ·rename_i hc
   exact mS r f (j+1) (by omega)
  ·exact h
theorem qI(r:List Int):∀ (f j:Nat),8<=f+j->cq r f j=8->∀ i,j<=i->i<8->r.getD i 0=0
 | 0,j,hf,_,i,h1,h2=>by omega
 | f+1,j,hf,h,i,h1,h2=>by
  unfold cq at h
  split at h
  ·rename_i hc
   by_cases e:i=j
   ·subst e;exact hc.2
   ·exact qI r f (j+1) (by omega) h i (by omega) h2
  ·omega
theorem xV{r:List Int}(hr:r.length=8)(hz:r≠bQ):cq r 8 0<8:=by
 have h1:=mS r 8 0 (by omega)
 rcases Nat.lt_or_ge (cq r 8 0) 8 with h|h
 ·exact h
 ·exfalso
  have h2:=qI r 8 0 (by omega) (by omega)
  apply hz
  apply List.ext_getElem?
  intro i
  rcases Nat.lt_or_ge i 8 with hi|hi
  ·have h3:=h2 i (Nat.zero_le _) hi
   rw[List.getD_eq_getElem?_getD,List.getElem?_eq_getElem (by omega)]at h3
   rw[List.getElem?_eq_getElem (by omega)]
   have h3:r[i]=0:=h3
   rw[h3]
   match i,hi with
   | 0,_=>rfl
   | 1,_=>rfl
   | 2,_=>rfl
   | 3,_=>rfl
   | 4,_=>rfl
   | 5,_=>rfl
   | 6,_=>rfl
   | 7,_=>rfl
  ·rw[List.getElem?_eq_none (by omega),List.getElem?_eq_none (by simp[bQ];omega)]
structure wZ(b:nT)(r:Int):Prop where
 size:b.size=r
 state:b.state=0\/b.state=1
 seen:aI b.seen
 at64:aI b.at_
 at1:b.state=1->1<=b.at_/\1<=b.seen
theorem nE{m:au}{b:nT}{r:Int}(hm:aY m)(h:wZ b r) :
  ((bU m b).1=moved/\wZ (bU m b).2 r)\/((bU m b).1=aW 0/\(bU m b).2.state=2/\0<=(bU m b).2.at_/\aI (bU m b).2.at_/\aI (bU m b).2.seen):=by
 obtain⟨h1,h2,h3,h4,h5⟩:=h
 have hn:=hm.new
 unfold aI at *
 unfold bU
 rw[if_neg (by omega)]
 split
 ·split
  ·exact .inr ⟨rfl,rfl,Int.le_refl _,by simp only;omega,hn⟩
  ·exact .inl ⟨rfl,h1,.inr rfl,hn,hn,fun _=>by simp only;omega⟩
 ·have h6:=h5 (by omega)
  split
  ·exact .inr ⟨rfl,rfl,by simp only;omega,h4,h3⟩
  ·split
   ·exact .inr ⟨rfl,rfl,by simp only;omega,by simp only;omega,h3⟩
   ·exact .inl ⟨rfl,h1,h2,h3,by simp only[aI];omega,fun _=>by simp only;omega⟩
structure lV(c:eD)(r:Int):Prop where
 size:c.size=r
 from0:0<=c.from_
 from64:aI c.from_
 reads:aU c.reads
 state:0<=c.state/\c.state<=3
 start:0<=c.start
 start64:aI c.start
 seen:aI c.seen
 at64:aI c.at_
 word:0<=c.word/\c.word<=8
 looks:c.state=1\/c.state=2->c.from_<c.at_/\c.at_<=c.seen/\c.reads≠bQ
 word2:c.state=2->c.word<8
theorem jP{size from_:Int}{reads:List Int}(last:Bool)(h0:0<=from_)(h1:aI from_)(h2:aU reads):lV (bJ size from_ reads last) size :=
 ⟨rfl,h0,h1,h2,⟨Int.le_refl _,by simp[bJ]⟩,h0,h1,by simp[bJ,aI],by simp[bJ,aI],by simp[bJ],fun h=>by simp[bJ]at h,fun h=>by simp[bJ]at h⟩
inductive rF(c:eD)(r:Int):aM->eD->Prop
 | moved {c'}:lV c' r->c'.from_=c.from_->c'.reads=c.reads->rF c r moved c'
 | waits:lV c r->c.state=1->rF c r waits c
 | done {c'}:c'.state=4->0<=c'.start->aI c'.start->aI c'.seen->rF c r (aW 0) c'
 | fail {e c'}:(e=3\/e=4)->c'.state=5->rF c r (bi e) c'
theorem kL{m:au}{c:eD}{r:Int}(hm:aY m)(h:lV c r):rF c r (aE m c).1 (aE m c).2:=by
 obtain⟨h1,h2,h3,h4,h5,h6,h7,h8,h9,h10,h11,h12⟩:=h
 have hn:=hm.new
 unfold aE
 rw[if_neg (by omega)]
 split
 ·split
  ·exact .done rfl h6 h7 hn
  ·split
   ·exact .fail (.inr rfl) rfl
   ·rename_i hs hz hf
    refine .moved ⟨h1,h2,h3,h4,by simp,h6,h7,hn,?_,h10,fun _=>⟨by simp only;omega,by simp only;omega,fun e=>hz (.inl e)⟩,fun h=>by simp at h⟩ rfl rfl
    unfold aI at *
    simp only
    omega
 ·split
  ·rename_i hs
   have h11':=h11 (.inl hs)
   split
   ·exact .waits ⟨h1,h2,h3,h4,h5,h6,h7,h8,h9,h10,h11,h12⟩ hs
   ·split
    ·exact .fail (.inr rfl) rfl
    ·have hw:=xV h4.1 h11'.2.2
     refine .moved ⟨h1,h2,h3,h4,by simp,?_,?_,h8,h9,by simp only;omega,fun _=>h11',fun _=>by simp only;omega⟩ rfl rfl
     ·simp only
      split<;>omega
     ·simp only
      split
      ·exact h9
      ·exact h7
  ·split
   ·rename_i hs
    have h11':=h11 (.inr hs)
    have hw8:=h12 hs
    have hle:=mS c.reads 8 (c.word.toNat+1) (by omega)
    split
    ·exact .fail (.inl rfl) rfl
    ·split
     ·exact .moved ⟨h1,h2,h3,h4,by simp,h6,h7,h8,h9,by simp only;omega,fun _=>h11',fun _=>by simp only;omega⟩ rfl rfl
     ·split
      ·refine .moved ⟨h1,h2,h3,h4,by simp,h6,h7,h8,?_,by simp only;omega,fun _=>⟨by simp only;omega,by simp only;omega,h11'.2.2⟩,fun h=>by simp at h⟩ rfl rfl
       unfold aI at *
       simp only
       omega
      ·split
       ·exact .moved ⟨h1,h2,h3,h4,by simp,h6,h7,h8,h9,by simp only;omega,fun h=>by simp at h,fun h=>by simp at h⟩ rfl rfl
       ·exact .done rfl h6 h7 h8
   ·split
    ·exact .fail (.inr rfl) rfl
    ·exact .done rfl h6 h7 h8
theorem Bj{m:au}{c:eD}(h0:c.state=0):(aE m c).1≠waits:=by
 unfold aE
 rw[if_neg (by omega),if_pos h0]
 split
 ·simp[aW,waits]
 ·split<;>simp[bi,moved,waits]
structure ry(x:lL)(m:au)(r:Int):Prop where
 chk:lV x.chk r
 cell:0<=x.cell/\x.cell<m.cells.length
 val:aI x.value
 first:x.read=false->x.chk.state=0
inductive rx(m:au)(r:Int):aM->lL->Prop
 | moved {x}:ry x m r->rx m r moved x
 | waits {x}:ry x m r->rx m r waits x
 | done {x} (v:Int):aI v->0<=x.chk.start->aI x.chk.start->aI x.chk.seen->rx m r (aW v) x
 | fail {e x}:(e=3\/e=4)->rx m r (bi e) x
theorem qT{m:au}{x:lL}{r:Int}(hm:aY m)(h:ry x m r):rx m r (bj m x).1 (bj m x).2:=by
 obtain⟨h1,h2,h3,h4⟩:=h
 unfold bj
 split
 ·exact .moved ⟨h1,h2,nh hm.c64 _,fun h=>by cases h⟩
 ·rename_i hr
  have hc:=kL hm h1
  generalize aE m x.chk=R at *
  obtain⟨a,c⟩:=R
  simp only at hc
  cases hc with
  | moved k1 k2 k3 =>
   rw[if_neg (by simp[moved])]
   exact .moved ⟨k1,h2,h3,fun h=>absurd h hr⟩
  | waits k1 k2 =>
   rw[if_neg (by simp[waits])]
   exact .waits ⟨k1,h2,h3,fun h=>absurd h hr⟩
  | done k1 k2 k3 k4 =>
   rw[if_pos (by rfl)]
   exact .done x.value h3 k2 k3 k4
  | fail k1 k2 =>
   rw[if_neg (by simp[bi])]
   exact .fail k1
structure kU(c:iG)(r:Int):Prop where
 ring:c.ring=r
 stamps:1<=c.stamps/\c.stamps<=1099511627776
 start:0<=c.start
 start64:aI c.start
 reads:aU c.reads
 state:0<=c.state/\c.state<=2
 chk:c.state=0->lV c.chk r
 seen:c.state≠0->0<=c.seen/\c.seen<c.stamps
inductive rC(m:au)(r:Int):aM->iG->au->Prop
 | moved {c}:kU c r->rC m r moved c m
 | waits {c}:kU c r->rC m r waits c m
 | done {c} (s:Int):1<=s->s<=c.stamps->s<=1099511627776->m.newest=s-1->rC m r (aW s) c {m with newest:=s}
 | fail {e c}:(e=3\/e=4\/e=6)->rC m r (bi e) c m
theorem qY{m:au}{c:iG}{r:Int}(hm:aY m)(h:kU c r):rC m r (aT m c).1 (aT m c).2.1 (aT m c).2.2:=by
 obtain⟨h1,h2,h3,h4,h5,h6,h7,h8⟩:=h
 unfold aT
 rw[if_neg (by omega)]
 split
 ·rename_i h0
  have hc:=kL hm (h7 h0)
  generalize aE m c.chk=R at *
  obtain⟨a,k⟩:=R
  simp only at hc
  cases hc with
  | moved k1 k2 k3 =>
   rw[if_neg (by simp[moved]),if_neg (by simp[moved])]
   exact .moved ⟨h1,h2,h3,h4,h5,h6,fun _=>k1,fun h=>absurd h0 h⟩
  | waits k1 k2 =>
   rw[if_neg (by simp[waits]),if_neg (by simp[waits])]
   exact .waits ⟨h1,h2,h3,h4,h5,h6,h7,fun h=>absurd h0 h⟩
  | done k1 k2 k3 k4 =>
   rw[if_neg (by simp[aW]),if_pos (by rfl)]
   by_cases hq:k.seen<0\/c.stamps<=k.seen
   ·rw[if_pos hq]
    exact .fail (.inr (.inr rfl))
   ·rw[if_neg hq]
    have hq':0<=k.seen/\k.seen<c.stamps:=by omega
    split
    ·exact .moved ⟨h1,h2,h3,h4,h5,(by decide:(0:Int)<=1/\(1:Int)<=2),fun h=>absurd (show(1:Int)=0 from h) (by decide),fun _=>hq'⟩
    ·exact .moved ⟨h1,h2,h3,h4,h5,(by decide:(0:Int)<=2/\(2:Int)<=2),fun h=>absurd (show(2:Int)=0 from h) (by decide),fun _=>hq'⟩
  | fail k1 k2 =>
   rw[if_pos (by rfl)]
   exact .fail (k1.elim .inl (fun h=>.inr (.inl h)))
 ·rename_i h0
  have h8':=h8 h0
  split
  ·by_cases hg:(if c.multi=true then gF (m.head (c.seen+1)) (c.seen+1) c.ring else dq (m.head c.seen) c.seen)=true
   ·rw[if_pos hg]
    exact .moved ⟨h1,h2,h3,h4,h5,(by decide:(0:Int)<=2/\(2:Int)<=2),fun h=>absurd (show(2:Int)=0 from h) (by decide),fun _=>h8'⟩
   ·rw[if_neg hg]
    exact .waits ⟨h1,h2,h3,h4,h5,h6,h7,h8⟩
  ·split
   ·exact .done (c.seen+1) (by omega) (by simp only;omega) (by omega) (by omega)
   ·refine .moved ⟨h1,h2,h3,h4,h5,by simp,fun _=>?_,fun h=>by simp at h⟩
    simp only
    rw[h1]
    exact jP false h3 h4 h5
theorem DC(op:BinOp)(x y:Int):uy (bits op .u64 x y):=by
 unfold bits uy
 rw[IntKind.wrap_u64]
 omega
theorem pX{s:List Int}(h:aU s)(k:Nat):aU (cT s k):=by
 unfold cT
 refine⟨by simp[h.1],fun x hx=>?_⟩
 rcases List.mem_or_eq_of_mem_set hx with h'|h'
 ·exact h.2 x h'
 ·rw[h'];exact DC _ _ _
theorem cF{s:List Int}(h:aU s)(c:Int):aU (be s c):=pX h _
theorem sL:∀ (l:List (Int×Int)) {s:List Int},aU s->aU (l.foldl (fun s w=>be s w.1) s)
 | [],_,h=>h
 | x::l,_,h=>sL l (cF h x.1)
theorem kr(l:List (Int×Int)):aU (dZ l):=sL l cD
theorem aY.setHead{m:au}(h:aY m)(s:Int){v:Int}(hv:aI v):aY (m.setHead s v) :=
 ⟨h.new,by simp[au.setHead,h.ring],by simp[au.setHead,h.sigs],h.cells,tu h.h64 _ hv,h.s64,h.c64⟩
theorem aY.setSig{m:au}(h:aY m)(s j:Int){v:Int}(hv:aI v):aY (m.setSig s j v) :=
 ⟨h.new,h.ring,by simp[au.setSig,h.sigs],h.cells,h.h64,tu h.s64 _ hv,h.c64⟩
theorem aY.setCell{m:au}(h:aY m)(c:Int){v:Int}(hv:aI v):aY (m.setCell c v) :=
 ⟨h.new,h.ring,h.sigs,by simp[au.setCell,h.cells],h.h64,h.s64,tu h.c64 _ hv⟩
theorem aY.setNew{m:au}(h:aY m){v:Int}(hv:aI v):aY {m with newest:=v}:=⟨hv,h.ring,h.sigs,h.cells,h.h64,h.s64,h.c64⟩
def rr(l:List (Int×Int))(n:Nat):Prop:=∀ x∈l,0<=x.1/\x.1<n/\aI x.2
structure fo(b:cR)(m:au)(r:Int):Prop where
 size:b.size=r
 stamp:1<=b.stamp/\b.stamp<=1099511627776
 len:b.l.length<=24
 list:rr b.l m.cells.length
 sig:aU b.sig
 most:b.most=jI b.l
 left:b.left<=b.l.length
 laid:b.laid<=8
 next:b.next<=6
 at_:b.next=1\/b.next=2\/b.next=3->1<=b.at_/\b.at_<b.stamp
 at64:aI b.at_
 word : -1<=b.word/\b.word<=8
 word2:b.next=2->0<=b.word/\b.word<8
 wr:b.next=4->0<b.left
structure w9(b:cR)(m:au)(r:Int):Prop where
 size:b.size=r
 stamp:1<=b.stamp/\b.stamp<=1099511627776
 len:b.l.length<=24
 list:rr b.l m.cells.length
 sig:aU b.sig
 most:b.most=jI b.l
 left:b.left<=b.l.length
 laid:b.laid<=8
 at64:aI b.at_
 word : -1<=b.word/\b.word<=8
theorem fo.p{b:cR}{m:au}{r:Int}(h:fo b m r):w9 b m r:=⟨h.size,h.stamp,h.len,h.list,h.sig,h.most,h.left,h.laid,h.at64,h.word⟩
theorem kA{b:cR}{m:au}{r:Int}(h:w9 b m r):fo (cW b) m r:=by
 obtain⟨h1,h2,h3,h4,h5,h6,h7,h8,h9,h10⟩:=h
 unfold cW
 refine⟨h1,h2,h3,h4,h5,h6,h7,h8,?_,?_,h9,h10,?_,?_⟩
 all_goals
  simp only
  split
  ·first|omega|(intro h;first|omega|assumption)|simp
  ·split
   ·first|omega|(intro h;first|omega|assumption)|simp
   ·first|omega|(intro h;first|omega|assumption)|simp
theorem vj{b:cR}{m:au}{r:Int}(h:w9 b m r){s:Int}(h0:0<=s)(h1:s<b.stamp):fo (dj b s) m r:=by
 obtain⟨k1,k2,k3,k4,k5,k6,k7,k8,k9,k10⟩:=h
 unfold dj
 have hs:aI s:=by unfold aI;omega
 split
 ·exact kA ⟨k1,k2,k3,k4,k5,k6,k7,k8,hs,k10⟩
 ·exact⟨k1,k2,k3,k4,k5,k6,k7,k8,by simp,fun _=>by simp only;omega,hs,k10,fun h=>by simp at h,fun h=>by simp at h⟩
theorem zx{b:cR}{m:au}{r:Int}(h:w9 b m r):fo (su b) m r :=
 kA ⟨h.size,h.stamp,h.len,h.list,h.sig,h.most,h.left,h.laid,h.at64,h.word⟩
theorem pW{b:cR}{m:au}{r:Int}(h:w9 b m r)(ha:1<=b.at_/\b.at_<b.stamp){j:Nat}(hj:j<=8):fo (cV b j) m r:=by
 obtain⟨k1,k2,k3,k4,k5,k6,k7,k8,k9,k10⟩:=h
 have hle:=mS b.sig 8 j hj
 unfold cV
 split
 ·exact⟨k1,k2,k3,k4,k5,k6,k7,k8,by simp,fun _=>ha,k9,by simp only;omega,fun _=>by simp only;omega,fun h=>by simp at h⟩
 ·exact vj (b:={b with word:=cq b.sig 8 j}) ⟨k1,k2,k3,k4,k5,k6,k7,k8,k9,by simp only;omega⟩ (s:=b.at_-1) (by omega) (by simp only;omega)
inductive ux(m:au)(r:Int):aM->cR->au->Prop
 | moved {b m'}:fo b m' r->aY m'->m'.ring=m.ring->m'.cells.length=m.cells.length->m'.newest=m.newest->ux m r moved b m'
 | waits {b}:fo b m r->ux m r waits b m
 | done {b m'}:aY m'->m'.ring=m.ring->m'.cells.length=m.cells.length->m'.newest=m.newest->ux m r (aW 0) b m'
theorem w9.mem{b:cR}{m m':au}{r:Int}(h:w9 b m r)(hc:m'.cells.length=m.cells.length):w9 b m' r :=
 ⟨h.size,h.stamp,h.len,by rw[hc];exact h.list,h.sig,h.most,h.left,h.laid,h.at64,h.word⟩
theorem nF{m:au}{b:cR}{r:Int}(hm:aY m)(h:fo b m r):ux m r (aR m b).1 (aR m b).2.1 (aR m b).2.2:=by
 have hp:=h.p
 obtain⟨k1,k2,k3,k4,k5,k6,k7,k8,k9,k10,k11,k12,k13,k14⟩:=h
 have hh:∀ d,aI (ea b.stamp d):=fun d=>by unfold ea aI;split<;>omega
 unfold aR
 split
 ·rename_i hn
  split
  ·rename_i hl
   have hw:aI (iA (b.sig.getD b.laid 0)):=u5 (dx k5.2 _)
   refine .moved ⟨k1,k2,k3,k4,k5,k6,k7,by simp only;omega,k9,fun h=>by simp[hn]at h,k11,k12,fun h=>by simp[hn]at h,fun h=>by simp[hn]at h⟩ (hm.setSig _ _ hw) rfl rfl rfl
  ·refine .moved ?_ (hm.setHead _ (hh _)) (by simp[au.setHead,au.ring]) rfl rfl
   split
   ·exact kA (hp.mem rfl)
   ·exact vj (m:=m.setHead b.stamp (ea b.stamp false)) (s:=b.stamp-1) (hp.mem rfl) (by omega) (by omega)
 ·rename_i hn
  have ha:=k10 (.inl hn)
  split
  ·exact .moved (zx hp) hm rfl rfl rfl
  ·split
   ·exact .moved (pW hp ha (by omega)) hm rfl rfl rfl
   ·exact .waits ⟨k1,k2,k3,k4,k5,k6,k7,k8,k9,k10,k11,k12,k13,k14⟩
 ·rename_i hn
  have ha:=k10 (.inr (.inl hn))
  have hw:=k13 hn
  split
  ·exact .moved ⟨k1,k2,k3,k4,k5,k6,k7,k8,by simp,fun _=>ha,k11,k12,fun h=>by simp at h,fun h=>by simp at h⟩ hm rfl rfl rfl
  ·exact .moved (pW hp ha (by omega)) hm rfl rfl rfl
 ·rename_i hn
  split
  ·exact .moved (zx hp) hm rfl rfl rfl
  ·exact .waits ⟨k1,k2,k3,k4,k5,k6,k7,k8,k9,k10,k11,k12,k13,k14⟩
 ·rename_i hn
  have hl:=k14 hn
  have hx:b.l.getD (b.l.length-b.left) (0,0)∈b.l:=by
   rw[List.getD_eq_getElem?_getD,List.getElem?_eq_getElem (by omega)];simp
  have hv:=k4 _ hx
  refine .moved (kA ⟨k1,k2,k3,?_,k5,k6,by simp only;omega,k8,k11,k12⟩) (hm.setCell _ hv.2.2) rfl (by simp[au.setCell]) rfl
  simpa[au.setCell]using k4
 ·split
  ·exact .moved (kA ⟨k1,k2,k3,k4,k5,k6,k7,k8,k11,k12⟩) hm rfl rfl rfl
  ·exact .waits ⟨k1,k2,k3,k4,k5,k6,k7,k8,k9,k10,k11,k12,k13,k14⟩
 ·exact .done (hm.setHead _ (hh _)) (by simp[au.setHead,au.ring]) rfl rfl
 ·exfalso
  rcases(show b.next=0\/b.next=1\/b.next=2\/b.next=3\/b.next=4\/b.next=5\/b.next=6 by omega)with h|h|h|h|h|h|h<;>simp_all

structure aQ(F:List Nat)(w w':World):Prop where
 os:w'.os=w.os
 tape:w'.tape=w.tape
 output:w'.output=w.output
 size:w.heap.size<=w'.heap.size
 block:∀ k,k<w.heap.size->k∉F->w'.heap[k]?=w.heap[k]?
def dz(n:Nat)(F F':List Nat):Prop:=∀ x∈F',x∈F\/n<=x
theorem dz.refl(n:Nat)(F:List Nat):dz n F F:=fun _ hx=>.inl hx
theorem dz.trans{n m:Nat}{F G H:List Nat}(h:dz n F G)(k:dz m G H)(hm:n<=m):dz n F H:=fun x hx=>by
 rcases k x hx with h1|h1
 ·exact h x h1
 ·exact .inr (Nat.le_trans hm h1)
theorem dz.apart{n:Nat}{F F' G:List Nat}(h:dz n F F')(hd:∀ x∈F,x∉G)(hg:∀ x∈G,x<n):∀ x∈F',x∉G:=fun x hx hxg=>by
 rcases h x hx with h1|h1
 ·exact hd x h1 hxg
 ·have:=hg x hxg
  omega
theorem aQ.refl(F:List Nat)(w:World):aQ F w w:=⟨rfl,rfl,rfl,Nat.le_refl _,fun _ _ _=>rfl⟩
theorem aQ.of_below{w w':World}(h:Below w.heap.size w w')(F:List Nat):aQ F w w':=⟨h.os,h.tape,h.output,h.size,fun k hk _=>h.block k hk⟩
theorem aQ.below{w w':World}(h:aQ [] w w'):Below w.heap.size w w':=⟨h.os,h.tape,h.output,h.size,fun k hk=>h.block k hk (by simp)⟩
theorem aQ.belowN{F:List Nat}{w w':World}(h:aQ F w w'){n:Nat}(hn:n<=w.heap.size)(hF:∀ x∈F,n<=x):Below n w w' :=
 ⟨h.os,h.tape,h.output,h.size,fun k hk=>h.block k (by omega) (fun hx=>by have:=hF k hx;omega)⟩
theorem aQ.mono{F G:List Nat}{w w':World}(h:aQ F w w')(hs:dz w.heap.size G F):aQ G w w' :=
 ⟨h.os,h.tape,h.output,h.size,fun k hk hn=>h.block k hk (fun hx=>by
  rcases hs k hx with h1|h1
  ·exact hn h1
  ·omega)⟩
theorem aQ.trans{F G:List Nat}{a b c:World}(h:aQ F a b)(k:aQ G b c)(hs:dz a.heap.size F G):aQ F a c :=
 ⟨k.os.trans h.os,k.tape.trans h.tape,k.output.trans h.output,Nat.le_trans h.size k.size,fun q hq hn=>by
  rw[k.block q (Nat.lt_of_lt_of_le hq h.size) (fun hx=>by
   rcases hs q hx with h1|h1
   ·exact hn h1
   ·omega)]
  exact h.block q hq hn⟩
theorem aQ.then{F:List Nat}{a b c:World}(h:aQ F a b)(k:aQ F b c):aQ F a c:=h.trans k (dz.refl _ _)
theorem aQ.alloc{F:List Nat}{a b:World}(h:aQ F a b)(o:Obj):aQ F a (b.alloc o) :=
 h.trans (G:=[]) ⟨rfl,rfl,rfl,by simp,fun k hk _=>heap_alloc_old b o hk⟩ (fun _ hx=>nomatch hx)
theorem aQ.drewN{F:List Nat}{a b:World}(h:aQ F a b)(n:Nat):aQ F a (b.drewN n):=h.trans (G:=[]) ⟨rfl,rfl,rfl,Nat.le_refl _,fun _ _ _=>rfl⟩ (fun _ hx=>nomatch hx)
theorem aQ.set{F:List Nat}{a b:World}(h:aQ F a b){p:Addr}(hp:p.block∈F\/a.heap.size<=p.block)(v:Value):aQ F a (b.setCell p v) :=
 h.trans (G:=[p.block]) ⟨rfl,rfl,rfl,by simp,fun k _ hn=>Below.heap_setCell _ _ _ _ (by simpa using hn)⟩ (fun x hx=>by rw[List.mem_singleton.1 hx];exact hp)
theorem aQ.grown{F:List Nat}{a b c:World}{ob:Option Nat}(h:aQ F a b)(g:b.grownBy c ob)(hob:∀ q,ob=some q->q∈F\/a.heap.size<=q):aQ F a c :=
 h.trans (G:=ob.toList) ⟨g.os,g.tape,g.output,g.size,fun k hk hn=>g.block k hk (fun e=>hn (by rw[<-e];simp))⟩ (fun x hx=>hob x (by simpa using hx))
theorem aQ.heap{F:List Nat}{w w':World}(h:aQ F w w'){k:Nat}{o:Obj}(ho:w.heap[k]?=some o)(hn:k∉F):w'.heap[k]?=some o :=
 (h.block k (Array.getElem?_eq_some_iff.1 ho).1 hn).trans ho
theorem aQ.cell{F:List Nat}{w w':World}(h:aQ F w w'){p:Addr}(hlt:p.block<w.heap.size)(hn:p.block∉F):w'.cell? p=w.cell? p :=
 World.cell?_of_block (h.block p.block hlt hn)
theorem dn(w:World)(n:Nat):Below w.heap.size w (w.drewN n):=⟨rfl,rfl,rfl,Nat.le_refl _,fun _ _=>rfl⟩
theorem ar{w:World}{o:Obj}{n:Nat}(h:n=w.heap.size):(w.alloc o).heap[n]?=some o:=by subst h;exact heap_alloc_new _ _
theorem bS{w:World}{o p:Obj}{n:Nat}(h:w.heap[n]?=some p):(w.alloc o).heap[n]?=some p :=
 (heap_alloc_old w o (Array.getElem?_eq_some_iff.1 h).1).trans h
theorem af{w:World}{o:Obj}{n:Nat}(h:w.heap[n]?=some o):n<w.heap.size:=(Array.getElem?_eq_some_iff.1 h).1
def bR:Value->List Nat
 | .slice (some a) _ _=>[a.block]
 | _=>[]
def aD(w:World)(e:TypeId)(sz:Nat)(v:Value)(n:Nat)(xs:List Value):Prop:=w.ownsRow 0 e sz v n xs
theorem aD.form{w:World}{e:TypeId}{sz:Nat}{v:Value}{n:Nat}{xs:List Value}(h:aD w e sz v n xs):∃ a m c,v=.slice a m c:=by
 rcases h.2 with⟨rfl,_⟩|⟨g,cap,cur,rfl,_⟩
 ·exact⟨_,_,_,rfl⟩
 ·exact⟨_,_,_,rfl⟩
theorem om(w:World)(e:TypeId)(sz:Nat):aD w e sz (.slice none 0 0) 0 []:=World.ownsRow_nil _ _ _ _
theorem fL{v:Value}{g:Nat}(h:v.ownBlock=some g):g∈bR v:=by
 cases v<;>simp[Value.ownBlock]at h
 rename_i a n c
 cases a with
 | none=>simp at h
 | some a=>simp at h;subst h;simp[bR]
theorem aD.lt{w:World}{e:TypeId}{sz:Nat}{v:Value}{n:Nat}{xs:List Value}(h:aD w e sz v n xs):∀ x∈bR v,x<w.heap.size:=fun x hx=>by
 rcases h.2 with⟨rfl,_⟩|⟨g,cap,cur,rfl,_,hg,_⟩
 ·simp[bR]at hx
 ·simp[bR]at hx
  subst hx
  exact af hg
theorem aD.keep{w w':World}{e:TypeId}{sz:Nat}{v:Value}{n:Nat}{xs:List Value}(h:aD w e sz v n xs)(hk:∀ x∈bR v,w'.heap[x]?=w.heap[x]?):aD w' e sz v n xs:=by
 refine⟨h.1,?_⟩
 rcases h.2 with hn|⟨g,cap,cur,rfl,hb,hg,r⟩
 ·exact .inl hn
 ·exact .inr ⟨g,cap,cur,rfl,hb,(hk g (by simp[bR])).trans hg,r⟩
theorem aD.kept{F:List Nat}{w w':World}{e:TypeId}{sz:Nat}{v:Value}{n:Nat}{xs:List Value}(h:aD w e sz v n xs)(hk:aQ F w w')(hd:∀ x∈bR v,x∉F):aD w' e sz v n xs :=
 h.keep fun x hx=>hk.block x (h.lt x hx) (hd x hx)
theorem mixG_eq(x s c d:Nat)(hx:x<18446744073709551616) :
  bits .xor .u64 (IntKind.u64.wrap (bits .xor .u64 (IntKind.u64.wrap (bits .xor .u64 (x:Int) ((x:Int)/(s:Int))*(c:Int))) (IntKind.u64.wrap (bits .xor .u64 (x:Int) ((x:Int)/(s:Int))*(c:Int))/(s:Int))*(d:Int)))
   (IntKind.u64.wrap (bits .xor .u64 (IntKind.u64.wrap (bits .xor .u64 (x:Int) ((x:Int)/(s:Int))*(c:Int))) (IntKind.u64.wrap (bits .xor .u64 (x:Int) ((x:Int)/(s:Int))*(c:Int))/(s:Int))*(d:Int))/(s:Int))=((vt s c d x:Nat):Int):=by
 rw[mixStep_u64 x s c hx]
 have hyl:(x ^^^ x/s)*c%18446744073709551616<18446744073709551616:=Nat.mod_lt _ (by decide)
 unfold vt
 generalize (x ^^^ x/s)*c%18446744073709551616=y at *
 rw[mixStep_u64 y s d hyl]
 have hzl:(y ^^^ y/s)*d%18446744073709551616<18446744073709551616:=Nat.mod_lt _ (by decide)
 generalize (y ^^^ y/s)*d%18446744073709551616=z at *
 exact xorShift_u64 z s hzl
theorem tM(s c d x:Nat):vt s c d x<18446744073709551616:=by
 unfold vt
 have hzl:((x ^^^ x/s)*c%18446744073709551616 ^^^ (x ^^^ x/s)*c%18446744073709551616/s)*d%18446744073709551616<18446744073709551616:=Nat.mod_lt _ (by decide)
 generalize ((x ^^^ x/s)*c%18446744073709551616 ^^^ (x ^^^ x/s)*c%18446744073709551616/s)*d%18446744073709551616=z at *
 exact Nat.xor_lt_two_pow (n:=64) hzl (Nat.lt_of_le_of_lt (Nat.div_le_self _ _) hzl)
theorem BM(x:Nat)(hx:x<18446744073709551616)(w:World):Calls Tryz.prog 212 #[.int .u64 (x:Int)] w (dm (.int .u64 (oz x:Nat)) w):=by
 have HM:=kH (mixG_eq x 8589934592 18397679294719823053 14181476777654086739 hx)
 go_enter Tryz.func212,Tryz.ntmps212
 go_wp2
 go_ret
 refine⟨?_,rfl⟩
 unfold oz
 rw[<-HM.out]
 rfl
theorem zK(c:Int):ek c<512:=by
 unfold ek
 have:oz (fZ c).toNat<18446744073709551616:=tM _ _ _ _
 generalize oz (fZ c).toNat=x at *
 omega
theorem rW(c:Int)(w:World):Calls Tryz.prog 171 #[.int .i64 c] w (dm (.int .i64 (ek c:Nat)) w):=by
 have hu:IntKind.u64.wrap c=(((fZ c).toNat:Nat):Int):=by
  rw[IntKind.wrap_u64];unfold fZ;omega
 have hul:(fZ c).toNat<18446744073709551616:=by unfold fZ;omega
 have hl:=zK c
 unfold ek at *
 generalize (fZ c).toNat=u at *
 have HC:=kH (BM u hul w)
 have hm:oz u<18446744073709551616:=tM _ _ _ _
 generalize oz u=x at *
 have hh:((x:Int)/36028797018963968)=((x/36028797018963968:Nat):Int):=by omega
 generalize x/36028797018963968=y at *
 go_enter Tryz.func171,Tryz.ntmps171
 go_wp2_with fail
 refine HC.out.mono ?_
 rintro e w' ⟨rfl,rfl⟩
 go_wp2
 go_ret
 exact⟨rfl,rfl⟩
theorem kT(h:Int)(w:World):Calls Tryz.prog 213 #[.int .i64 h] w (dm (.int .i64 (bK h)) w):=by
 go_enter Tryz.func213,Tryz.ntmps213
 go_wp2
 go_ret
 exact⟨rfl,rfl⟩
theorem and_one(h:Int):bits .and .i64 h 1=h%2:=by
 have h1:(BitVec.ofInt 64 1).toNat=2 ^ 1-1:=by decide
 have key:(BitVec.ofInt 64 h &&& BitVec.ofInt 64 1).toNat=(h%((2 ^ 64:Nat):Int)).toNat%2 ^ 1:=by
  rw[BitVec.toNat_and,BitVec.toNat_ofInt,h1,Nat.and_two_pow_sub_one_eq_mod]
 show IntKind.i64.wrap ((BitVec.ofInt 64 h &&& BitVec.ofInt 64 1).toNat:Nat)=h%2
 rw[key]
 simp[IntKind.wrap,IntKind.bits,IntKind.signed]
 omega
theorem rA(h:Int)(w:World):Calls Tryz.prog 214 #[.int .i64 h] w (dm (.bool (iP h)) w):=by
 have e:(bits .and .i64 h 1 == 1)=iP h:=by rw[and_one];unfold iP;rfl
 have HE:=kH e
 clear e
 go_enter Tryz.func214,Tryz.ntmps214
 go_wp2
 go_ret
 exact⟨congrArg (fun v=>Ending.returned (Value.bool v)) HE.out,rfl⟩
theorem nU(n:Int)(h0:0<=n)(h1:n<2 ^ 62):IntKind.i64.wrap n=n:=by rw[IntKind.wrap_i64];omega
theorem ru(s:Int)(d:Bool)(h0:0<=s)(h1:s<=1099511627776)(w:World):Calls Tryz.prog 177 #[.int .i64 s,.bool d] w (dm (.int .i64 (ea s d)) w):=by
 have e:bits .or .i64 (s*2) 1=2*s+1:=by
  rw[bits_join .i64 62 (by decide) nU 1 (s*2) 1 (by omega) (by omega) (by omega) (by omega) (by decide) (by decide)]
  omega
 have HE:=kH e
 clear e
 cases d
 ·go_enter Tryz.func177,Tryz.ntmps177
  go_wp2
  go_ret
  refine⟨?_,rfl⟩
  simp[ea]
  omega
 ·go_enter Tryz.func177,Tryz.ntmps177
  go_wp2
  go_ret
  refine⟨?_,rfl⟩
  simp[ea,HE.out]
theorem sC(r:Int)(h0:1<=r)(h1:r<=16)(w:World):Calls Tryz.prog 217 #[.int .i64 r] w (dm (.bool true) w):=by
 go_enter Tryz.func217,Tryz.ntmps217
 go_wp2
 go_ret
 exact⟨rfl,rfl⟩
theorem iv(s r:Int)(h0:1<=r)(h1:r<=16)(w:World):Calls Tryz.prog 216 #[.int .i64 s,.int .i64 r] w (dm (.int .i64 (bI s r)) w):=by
 obtain⟨n,rfl⟩:=Int.eq_ofNat_of_zero_le (show 0<=r by omega)
 have h2:s.tmod n=if 0<=s\/(n:Int) ∣ s then s%n else s%n-n:=by
  have:=Int.tmod_eq_emod (a:=s) (b:=n)
  simp only[Int.natAbs_natCast]at this
  rw[this]
  split<;>simp
 have h3:=Int.emod_nonneg s (show(n:Int)≠0 by omega)
 have h4:=Int.emod_lt_of_pos s (show 0<(n:Int) by omega)
 have h5:(0<=s\/(n:Int) ∣ s)\/¬(0<=s\/(n:Int) ∣ s):=by exact Classical.em _
 unfold bI
 have HM:=kH (sC n h0 h1 w)
 have hn0:¬((n:Int)=0):=by omega
 rcases h5 with h5|h5
 ·rw[if_pos h5]at h2
  clear h5
  have h6:¬(s.tmod n<0):=by omega
  go_enter Tryz.func216,Tryz.ntmps216
  go_wp2_with fail
  refine HM.out.mono ?_
  rintro e w' ⟨rfl,rfl⟩
  go_wp2
  go_ret
  exact⟨rfl,rfl⟩
 ·rw[if_neg h5]at h2
  clear h5
  have h6:s.tmod n<0:=by omega
  go_enter Tryz.func216,Tryz.ntmps216
  go_wp2_with fail
  refine HM.out.mono ?_
  rintro e w' ⟨rfl,rfl⟩
  go_wp2
  go_ret
  exact⟨rfl,rfl⟩
theorem gm(h s:Int)(w:World):Calls Tryz.prog 172 #[.int .i64 h,.int .i64 s] w (dm (.bool (dq h s)) w):=by
 have HS:=kH (kT h w)
 have HD:=kH (rA h w)
 unfold dq
 generalize bK h=sh at *
 generalize iP h=d at *
 rcases(show s<1\/(1<=s/\s<sh)\/(1<=s/\sh<s)\/(1<=s/\sh=s)from by omega)with h1|⟨h1,h2⟩|⟨h1,h2⟩|⟨h1,h2⟩
 ·rw[decide_eq_true (.inl h1)]
  go_enter Tryz.func172,Tryz.ntmps172
  go_wp2_with fail
  refine HS.out.mono ?_
  rintro e w' ⟨rfl,rfl⟩
  go_wp2
  go_ret
  exact⟨rfl,rfl⟩
 ·rw[decide_eq_true (.inr (.inl h2))]
  have k1:decide (s<1)=false:=by simp;omega
  go_enter Tryz.func172,Tryz.ntmps172
  go_wp2_with fail
  refine HS.out.mono ?_
  rintro e w' ⟨rfl,rfl⟩
  go_wp2
  go_ret
  exact⟨rfl,rfl⟩
 ·have hf:decide (s<1\/s<sh\/sh=s/\d=true)=false:=decide_eq_false (by omega)
  rw[hf]
  have k1:decide (s<1)=false:=by simp;omega
  have k2:decide (s<sh)=false:=by simp;omega
  have k3:(sh == s)=false:=by simp;omega
  clear hf
  go_enter Tryz.func172,Tryz.ntmps172
  go_wp2_with fail
  refine HS.out.mono ?_
  rintro e w' ⟨rfl,rfl⟩
  go_wp2
  go_ret
  exact⟨rfl,rfl⟩
 ·subst h2
  have k1:decide (sh<1)=false:=by simp;omega
  have hf:decide (sh<1\/sh<sh\/sh=sh/\d=true)=d:=by cases d<;>simp<;>omega
  rw[hf]
  clear hf
  go_enter Tryz.func172,Tryz.ntmps172
  go_wp2_with fail
  refine HS.out.mono ?_
  rintro e w' ⟨rfl,rfl⟩
  go_wp2_with fail
  refine HD.out.mono ?_
  rintro e w' ⟨rfl,rfl⟩
  go_wp2
  go_ret
  exact⟨rfl,rfl⟩
theorem y7(h s:Int)(w:World):Calls Tryz.prog 231 #[.int .i64 h,.int .i64 s] w (dm (.bool (decide (bK h=s))) w):=by
 have HS:=kH (kT h w)
 have e:(bK h == s)=decide (bK h=s):=by rfl
 rw[<-e]
 clear e
 generalize bK h=sh at *
 go_enter Tryz.func231,Tryz.ntmps231
 go_wp2_with fail
 refine HS.out.mono ?_
 rintro e w' ⟨rfl,rfl⟩
 go_wp2
 go_ret
 exact⟨rfl,rfl⟩
theorem zb(h s r:Int)(h0:1<=r)(h1:r<=16)(hs:0<=s/\s<=1099511627777)(w:World):Calls Tryz.prog 174 #[.int .i64 h,.int .i64 s,.int .i64 r] w (dm (.bool (gF h s r)) w):=by
 have HM:=kH (sC r h0 h1 w)
 have HO:=kH (gm h (s-r) w)
 unfold gF
 generalize dq h (s-r)=o at *
 by_cases hl:s<r
 ·rw[decide_eq_true (.inl hl)]
  go_enter Tryz.func174,Tryz.ntmps174
  go_wp2_with fail
  refine HM.out.mono ?_
  rintro e w' ⟨rfl,rfl⟩
  go_wp2
  go_ret
  exact⟨rfl,rfl⟩
 ·have k1:decide (s<r)=false:=by simp;omega
  have hf:decide (s<r\/o=true)=o:=by cases o<;>simp<;>omega
  rw[hf]
  clear hf hl
  go_enter Tryz.func174,Tryz.ntmps174
  go_wp2_with fail
  refine HM.out.mono ?_
  rintro e w' ⟨rfl,rfl⟩
  go_wp2_with fail
  refine HO.out.mono ?_
  rintro e w' ⟨rfl,rfl⟩
  go_wp2
  go_ret
  exact⟨rfl,rfl⟩
def bH(s:List Int):Array Value:=(s.map (Value.int .u64)).toArray
def dR(s:List Int):Value:=.agg (bH s)
theorem fN:(Tryz.prog.info? 42).map (·.size)=some 8:=by kernel_rfl
theorem lT{s:List Int}(h:s.length=8):∃ a b c d e f g i,s=[a,b,c,d,e,f,g,i]:=by
 match s,h with
 | [a,b,c,d,e,f,g,i],_=>exact⟨a,b,c,d,e,f,g,i,rfl⟩
theorem mz(s:List Int)(c:Int)(hs:aU s)(w:World):Calls Tryz.prog 109 #[dR s,.int .i64 c] w (dd (dR (be s c)) w):=by
 have HH:=kH (rW c)
 have hl:=zK c
 obtain⟨a0,a1,a2,a3,a4,a5,a6,a7,rfl⟩:=lT hs.1
 clear hs
 have hv:dR [a0,a1,a2,a3,a4,a5,a6,a7]=.agg #[.int .u64 a0,.int .u64 a1,.int .u64 a2,.int .u64 a3,.int .u64 a4,.int .u64 a5,.int .u64 a6,.int .u64 a7]:=rfl
 rw[hv]
 clear hv
 unfold be cT
 generalize ek c=k at *
 obtain⟨q,r,hk,hr⟩:∃ q r,k=64*q+r/\r<64:=⟨k/64,k%64,by omega,by omega⟩
 have e1:k/64=q:=by omega
 have e2:k%64=r:=by omega
 rw[e1,e2]
 have k2:bits .and .i64 (k:Int) 63=(r:Int):=by
  have:=bits_mask .i64 62 (by decide) nU 6 (by decide) (k:Int) (by omega) (by omega)
  rw[show((2:Int) ^ 6-1)=63 by decide,show((2:Int) ^ 6)=64 by decide]at this
  rw[this]
  omega
 have k3:(((k:Int))/64)=(q:Int):=by omega
 clear hk e1 e2
 have k4:IntKind.u64.wrap (2 ^ r)=((2 ^ r:Nat):Int):=by
  have:(2:Nat) ^ r<2 ^ 64:=Nat.pow_lt_pow_right (by decide) hr
  rw[IntKind.wrap_u64]
  have h3:((2:Int) ^ r)=((2 ^ r:Nat):Int):=by simp
  rw[h3]
  generalize 2 ^ r=y at *
  omega
 generalize 2 ^ r=y at *
 rcases(show q=0\/q=1\/q=2\/q=3\/q=4\/q=5\/q=6\/q=7 by omega)with rfl|rfl|rfl|rfl|rfl|rfl|rfl|rfl
 all_goals
  go_enter Tryz.func109,Tryz.ntmps109
  go_wp2_with fail
  refine(HH.out _).mono ?_
  rintro e w' ⟨rfl,rfl⟩
  go_wp2_with fail
  go_region
  go_wp2
  refine bodyPost_ret (results_cell_row rfl _ _ _ _ _ _ _ rfl (ar (w:=w.alloc _) (by simp)) Tryz.underlying42 rfl fN) rfl ⟨rfl,?_⟩
  exact(bA (ai w _) _).drew
def dH(l:List Int):Array Value:=(l.map (Value.int .i64)).toArray
theorem ej(l:List Int)(i:Nat)(h:i<l.length):(dH l)[i]?=some (.int .i64 (l.getD i 0)):=by
 simp[dH,h,List.getD_eq_getElem?_getD]
theorem gW(l:List Int)(i:Nat)(v:Int):(dH l).setIfInBounds i (.int .i64 v)=dH (l.set i v):=by
 unfold dH
 apply Array.ext'
 simp
def ptr(b:Nat):Value:=.pointer (some ⟨b,0,none⟩)
structure dW(w:World)(p hb sb cb:Nat)(lv:Value)(m:au)(L:Nat):Prop where
 blk:w.heap[p]?=some (.cells #[.int .i64 m.newest,.slice (some ⟨hb,0,none⟩) m.heads.length m.heads.length,.slice (some ⟨sb,0,none⟩) m.heads.length m.heads.length,.slice (some ⟨cb,0,none⟩) m.cells.length m.cells.length,lv] 120 (0,0))
 heads:w.heap[hb]?=some (.cells (dH m.heads) 2 (0,0))
 sigs:w.heap[sb]?=some (.cells (dH m.sigs) 278 (0,0))
 cells:w.heap[cb]?=some (.cells (dH m.cells) 2 (0,0))
 log:∃ n xs,n<=L/\aD w 277 8 lv n xs
 apart:(p::hb::sb::cb::bR lv).Nodup
 ok:aY m
def dk(w:World)(p:Nat)(m:au)(L:Nat)(F:List Nat):Prop:=∃ hb sb cb lv,F=p::hb::sb::cb::bR lv/\dW w p hb sb cb lv m L
theorem dW.lt{w:World}{p hb sb cb:Nat}{lv:Value}{m:au}{L:Nat}(h:dW w p hb sb cb lv m L):∀ x∈p::hb::sb::cb::bR lv,x<w.heap.size:=fun x hx=>by
 obtain⟨n,xs,_,hr⟩:=h.log
 simp only[List.mem_cons]at hx
 rcases hx with rfl|rfl|rfl|rfl|hx
 ·exact af h.blk
 ·exact af h.heads
 ·exact af h.sigs
 ·exact af h.cells
 ·exact hr.lt x hx
theorem dk.lt{w:World}{p:Nat}{m:au}{L:Nat}{F:List Nat}(h:dk w p m L F):∀ x∈F,x<w.heap.size:=by
 obtain⟨hb,sb,cb,lv,rfl,h⟩:=h
 exact h.lt
theorem dW.keep{w w':World}{p hb sb cb:Nat}{lv:Value}{m:au}{L:Nat}(h:dW w p hb sb cb lv m L)(hk:∀ x∈p::hb::sb::cb::bR lv,w'.heap[x]?=w.heap[x]?):dW w' p hb sb cb lv m L:=by
 obtain⟨n,xs,hn,hr⟩:=h.log
 exact⟨(hk p (by simp)).trans h.blk,(hk hb (by simp)).trans h.heads,(hk sb (by simp)).trans h.sigs,(hk cb (by simp)).trans h.cells,⟨n,xs,hn,hr.keep fun x hx=>hk x (by simp[hx])⟩,h.apart,h.ok⟩
theorem dk.keep{w w':World}{p:Nat}{m:au}{L:Nat}{F:List Nat}(h:dk w p m L F)(hk:∀ x∈F,w'.heap[x]?=w.heap[x]?):dk w' p m L F:=by
 obtain⟨hb,sb,cb,lv,rfl,h⟩:=h
 exact⟨hb,sb,cb,lv,rfl,h.keep hk⟩
theorem dk.ok{w:World}{p:Nat}{m:au}{L:Nat}{F:List Nat}(h:dk w p m L F):aY m:=by
 obtain⟨hb,sb,cb,lv,rfl,h⟩:=h
 exact h.ok
theorem dk.kept{w w':World}{p:Nat}{m:au}{L:Nat}{F G:List Nat}(h:dk w p m L F)(hk:aQ G w w')(hd:∀ x∈F,x∉G):dk w' p m L F :=
 h.keep fun x hx=>hk.block x (h.lt x hx) (hd x hx)
theorem dW.box{w:World}{p hb sb cb:Nat}{lv:Value}{m:au}{L:Nat}(h:dW w p hb sb cb lv m L) :
  w.cell? ⟨p,0,none⟩=some (.int .i64 m.newest)/\w.cell? ⟨p,1,none⟩=some (.slice (some ⟨hb,0,none⟩) m.heads.length m.heads.length)/\w.cell? ⟨p,2,none⟩=some (.slice (some ⟨sb,0,none⟩) m.heads.length m.heads.length) /\
  w.cell? ⟨p,3,none⟩=some (.slice (some ⟨cb,0,none⟩) m.cells.length m.cells.length)/\w.cell? ⟨p,4,none⟩=some lv/\p<w.heap.size:=by
 have hc:=fun j=>cell_of_row w p j _ _ _ h.blk
 exact⟨by simpa using hc 0,by simpa using hc 1,by simpa using hc 2,by simpa using hc 3,by simpa using hc 4,af h.blk⟩
theorem wQ(w:World)(p hb sb cb:Nat)(lv:Value)(m:au)(L:Nat)(h:dW w p hb sb cb lv m L) :
  Calls Tryz.prog 39 #[ptr p] w (fun e w'=>e=.returned (.tuple #[.int .i64 m.cells.length,.int .i64 m.heads.length])/\Below w.heap.size w w'):=by
 obtain⟨c0,c1,c2,c3,c4,hlt⟩:=h.box
 clear h
 unfold ptr
 go_enter Tryz.func39,Tryz.ntmps39
 go_wp2
 go_quiet(fail)
 go_wp2
 go_ret2
 exact⟨rfl,dn w _⟩
def cH(k i j:Int):Value:=.agg #[.int .i64 k,.int .i64 i,.int .i64 j]
def pk(q:Addr)(w:World)(e:Ending)(w':World):Prop:=e=.returned (.pointer (some q))/\Below w.heap.size w w'
theorem kg(w:World)(p hb sb cb:Nat)(lv:Value)(m:au)(L:Nat)(h:dW w p hb sb cb lv m L) :
  Calls Tryz.prog 218 #[ptr p,cH 1 0 0] w (pk ⟨p,0,none⟩ w):=by
 obtain⟨c0,c1,c2,c3,c4,hlt⟩:=h.box
 clear h
 unfold ptr cH
 go_enter Tryz.func218,Tryz.ntmps218
 go_wp2
 go_ret
 exact⟨rfl,ai w _⟩
theorem rZ(w:World)(p hb sb cb:Nat)(lv:Value)(m:au)(L i:Nat)(h:dW w p hb sb cb lv m L)(hi:i<m.heads.length) :
  Calls Tryz.prog 218 #[ptr p,cH 2 i 0] w (pk ⟨hb,i,none⟩ w):=by
 obtain⟨c0,c1,c2,c3,c4,hlt⟩:=h.box
 have hil:(i:Int)<(m.heads.length:Int):=by omega
 clear h hi
 unfold ptr cH
 go_enter Tryz.func218,Tryz.ntmps218
 go_wp2
 go_quiet(fail)
 go_wp2
 go_quiet(fail)
 go_wp2
 go_ret
 exact⟨by simp,(ai w _).trans ⟨rfl,rfl,rfl,Nat.le_refl _,fun _ _=>rfl⟩⟩
theorem uA(w:World)(p hb sb cb:Nat)(lv:Value)(m:au)(L i j:Nat)(h:dW w p hb sb cb lv m L)(hi:i<m.heads.length)(hj:j<8) :
  Calls Tryz.prog 218 #[ptr p,cH 3 i j] w (pk ⟨sb,i*8+j,none⟩ w):=by
 obtain⟨c0,c1,c2,c3,c4,hlt⟩:=h.box
 have hil:(i:Int)<(m.heads.length:Int):=by omega
 have hjl:(j:Int)<8:=by omega
 clear h hi
 unfold ptr cH
 rcases(show j=0\/0<(j:Int) by omega)with rfl|hj0
 all_goals
  go_enter Tryz.func218,Tryz.ntmps218
  go_wp2
  go_quiet(fail)
  go_wp2
  go_quiet(fail)
  go_wp2
  go_quiet(fail)
  go_wp2
  go_ret
  exact⟨by simp,(ai w _).trans ⟨rfl,rfl,rfl,Nat.le_refl _,fun _ _=>rfl⟩⟩
theorem sa(w:World)(p hb sb cb:Nat)(lv:Value)(m:au)(L i:Nat)(h:dW w p hb sb cb lv m L)(hi:i<m.cells.length) :
  Calls Tryz.prog 218 #[ptr p,cH 4 i 0] w (pk ⟨cb,i,none⟩ w):=by
 obtain⟨c0,c1,c2,c3,c4,hlt⟩:=h.box
 have hil:(i:Int)<(m.cells.length:Int):=by omega
 clear h hi
 unfold ptr cH
 go_enter Tryz.func218,Tryz.ntmps218
 go_wp2
 go_quiet(fail)
 go_wp2
 go_quiet(fail)
 go_wp2
 go_quiet(fail)
 go_wp2
 go_quiet(fail)
 go_wp2
 go_ret
 exact⟨by simp,(ai w _).trans ⟨rfl,rfl,rfl,Nat.le_refl _,fun _ _=>rfl⟩⟩
theorem pL:(Tryz.prog.info? 277).map (fun i=>(i.zero,i.size,i.bytes))=some (some (.agg #[.int .i64 0,.int .i64 0,.int .i64 0,.int .i64 0,.int .i64 0,.int .i64 0,.int .i64 0,.bool false]),8,64):=by kernel_rfl
theorem oI{w:World}{g:Nat}{a b c:Value}{t:TypeId}(h:w.heap[g]?=some (.cells #[a,b,c] t (0,0))) :
  w.cell? ⟨g,0,none⟩=some a/\w.cell? ⟨g,1,none⟩=some b/\w.cell? ⟨g,2,none⟩=some c:=by
 have hc:=fun j=>cell_of_row w g j _ _ _ h
 exact⟨by simpa using hc 0,by simpa using hc 1,by simpa using hc 2⟩
theorem cG{w:World}{cs:Array Value}{t:TypeId}{g:Nat}(h:w.heap[g]?=some (.cells cs t (0,0)))(j:Nat)(u:Value)(hu:cs.toList[j]?=some u):w.cell? ((⟨g,0,none⟩:Addr).add j)=some u:=by
 have:(⟨g,0,none⟩:Addr).add j=⟨g,j,none⟩:=by unfold Addr.add;split<;>simp_all
 rw[this,cell_of_row w g j _ _ _ h]
 simpa using hu
theorem mV{w w1 W4 w5:World}{p hb sb cb g cap nl L:Nat}{lv:Value}{m:au}{xs:List Value}(hB:aQ (p::hb::sb::cb::bR lv) w w1)(hR:dW w1 p hb sb cb lv m L)(h4:aQ [] w1 W4)(hg:W4.grownBy w5 lv.ownBlock)
  (hat:lv.ownBlock=some g\/g=W4.heap.size) (hn:nl<=L) (hown:w5.ownsRow 0 277 8 (.slice (some ⟨g,0,none⟩) (nl+1) cap) (nl+1) xs) :
  dW (w5.setCell ⟨p,4,none⟩ (.slice (some ⟨g,0,none⟩) (nl+1) cap)) p hb sb cb (.slice (some ⟨g,0,none⟩) (nl+1) cap) m (L+1) /\
   aQ (p::hb::sb::cb::bR lv) w (w5.setCell ⟨p,4,none⟩ (.slice (some ⟨g,0,none⟩) (nl+1) cap))/\dz w.heap.size (bR lv) [g] /\
   ∀ (q:Addr) (v:Value),q.block<w1.heap.size->q.block∉bR lv->q≠⟨p,4,none⟩->w1.cell? q=some v->(w5.setCell ⟨p,4,none⟩ (.slice (some ⟨g,0,none⟩) (nl+1) cap)).cell? q=some v:=by
 have hlt:=hR.lt
 have hz:=hB.size
 have hz4:=h4.size
 have hnd:=hR.apart
 simp only[List.nodup_cons,List.mem_cons,not_or]at hnd
 obtain⟨⟨n1,n2,n3,n4⟩,⟨n5,n6,n7⟩,⟨n8,n9⟩,n10,n11⟩:=hnd
 have hf1:dz w1.heap.size (bR lv) [g]:=fun x hx=>by
  rw[List.mem_singleton.1 hx]
  rcases hat with h|h
  ·exact .inl (fL h)
  ·exact .inr (by omega)
 have hgb:∀ k,k<w1.heap.size->k∉bR lv->w5.heap[k]?=w1.heap[k]?:=fun k hk hr =>
  (hg.block k (by omega) (fun e=>hr (fL e.symm))).trans (h4.block k hk (by simp))
 have hgn:∀ k,k<w1.heap.size->k∉bR lv->k≠g:=fun k hk hr e=>by
  rcases hf1 g (by simp)with h|h
  ·exact hr (e▸h)
  ·omega
 have hl:=fun x h=>hlt x h
 have lp:=hlt p (by simp)
 have lh:=hlt hb (by simp)
 have ls:=hlt sb (by simp)
 have lc:=hlt cb (by simp)
 have ho:∀ k,k<w1.heap.size->k∉bR lv->k≠p->(w5.setCell ⟨p,4,none⟩ (.slice (some ⟨g,0,none⟩) (nl+1) cap)).heap[k]?=w1.heap[k]?:=fun k hk hr hkp =>
  (Below.heap_setCell _ _ _ _ (by simpa using hkp)).trans (hgb k hk hr)
 have hk5:aQ (p::hb::sb::cb::bR lv) w w5:=(hB.trans h4 (fun x hx=>nomatch hx)).grown hg (fun q hq=>.inl (by have:=fL hq;simp[this]))
 refine⟨⟨?_,?_,?_,?_,⟨nl+1,xs,by omega,?_⟩,?_,hR.ok⟩,?_,fun x hx=>?_,fun q v hq hr hne hc=>?_⟩
 ·have h5:=ab (i:=4) (v:=.slice (some ⟨g,0,none⟩) (nl+1) cap) ((hgb p lp n4).trans hR.blk)
  exact h5
 ·exact(ho hb lh n7 (fun e=>n1 e.symm)).trans hR.heads
 ·exact(ho sb ls n9 (fun e=>n2 e.symm)).trans hR.sigs
 ·exact(ho cb lc n10 (fun e=>n3 e.symm)).trans hR.cells
 ·exact aD.keep (w:=w5) hown (fun x hx=>Below.heap_setCell _ _ _ _ (by
   simp[bR]at hx
   subst hx
   simpa using (hgn p lp n4).symm))
 ·simp only[bR,List.nodup_cons,List.mem_cons,not_or,List.not_mem_nil,not_false_eq_true,and_true,List.nodup_nil]
  exact⟨⟨n1,n2,n3,hgn p lp n4⟩,⟨n5,n6,hgn hb lh n7⟩,⟨n8,hgn sb ls n9⟩,hgn cb lc n10⟩
 ·exact aQ.set (p:=⟨p,4,none⟩) hk5 (.inl List.mem_cons_self) _
 ·rcases hf1 x hx with h|h
  ·exact .inl h
  ·exact .inr (by omega)
 ·rw[World.cell?_setCell_other (h:=Ne.symm hne)]
  exact(World.cell?_of_block (hgb q.block hq hr)).trans hc
theorem dW.frozen{w:World}{p hb sb cb:Nat}{lv:Value}{m:au}{L:Nat}(h:dW w p hb sb cb lv m L)(i:Nat) :
  w.frozen? ⟨p,i,none⟩=false/\w.frozen? ⟨hb,i,none⟩=false/\w.frozen? ⟨sb,i,none⟩=false/\w.frozen? ⟨cb,i,none⟩=false :=
 ⟨frozen_of_row w p i _ _ h.blk,frozen_of_row w hb i _ _ h.heads,frozen_of_row w sb i _ _ h.sigs,frozen_of_row w cb i _ _ h.cells⟩
structure BK(w:World)(p hb sb cb:Nat)(lv:Value)(m m':au)(L:Nat)(q:Addr)(v:Int):Prop where
 rep:dW (w.setCell q (.int .i64 v)) p hb sb cb lv m' L
 blk:q.block∈p::hb::sb::cb::bR lv
 nor:q.block∉bR lv
 nlog:q≠⟨p,4,none⟩
 there:∃ u,w.cell? q=some u
 froz:w.frozen? q=false
theorem qm{w:World}{p hb sb cb:Nat}{lv:Value}{m:au}{L:Nat}(h:dW w p hb sb cb lv m L){v:Int}(hv:aI v):BK w p hb sb cb lv m {m with newest:=v} L ⟨p,0,none⟩ v:=by
 have hnd:=h.apart
 simp only[List.nodup_cons,List.mem_cons,not_or]at hnd
 obtain⟨⟨n1,n2,n3,n4⟩,⟨n5,n6,n7⟩,⟨n8,n9⟩,n10,n11⟩:=hnd
 obtain⟨n,xs,hn,hr⟩:=h.log
 refine⟨⟨ab (i:=0) (v:=.int .i64 v) h.blk,al h.heads (by simpa using Ne.symm n1),al h.sigs (by simpa using Ne.symm n2),al h.cells (by simpa using Ne.symm n3),⟨n,xs,hn,hr.keep fun x hx=>heap_setCell_other _ _ _ _ (by simp;exact fun e=>n4 (e▸hx))⟩,h.apart,h.ok.setNew hv⟩,by simp,n4,by simp,⟨_,h.box.1⟩,(h.frozen 0).1⟩
theorem u6{w:World}{p hb sb cb:Nat}{lv:Value}{m:au}{L:Nat}(h:dW w p hb sb cb lv m L)(s:Int){v:Int}(hv:aI v)(i:Nat)(hi:(bI s m.ring).toNat=i)(hil:i<m.heads.length):BK w p hb sb cb lv m (m.setHead s v) L ⟨hb,i,none⟩ v:=by
 subst hi
 have hnd:=h.apart
 simp only[List.nodup_cons,List.mem_cons,not_or]at hnd
 obtain⟨⟨n1,n2,n3,n4⟩,⟨n5,n6,n7⟩,⟨n8,n9⟩,n10,n11⟩:=hnd
 obtain⟨n,xs,hn,hr⟩:=h.log
 have hl:(m.setHead s v).heads.length=m.heads.length:=by simp[au.setHead]
 refine⟨⟨?_,?_,al h.sigs (by simpa using Ne.symm n5),al h.cells (by simpa using Ne.symm n6),⟨n,xs,hn,hr.keep fun x hx=>heap_setCell_other _ _ _ _ (by simp;exact fun e=>n7 (e▸hx))⟩,h.apart,h.ok.setHead s hv⟩,by simp,n7,by simp,?_,(h.frozen _).2.1⟩
 ·rw[hl]
  exact al h.blk (by simpa using n1)
 ·have h2:=ab (i:=(bI s m.ring).toNat) (v:=.int .i64 v) h.heads
  rw[gW]at h2
  exact h2
 ·exact⟨_,(cell_of_row w hb _ _ _ _ h.heads).trans (ej _ _ hil)⟩
theorem zs{w:World}{p hb sb cb:Nat}{lv:Value}{m:au}{L:Nat}(h:dW w p hb sb cb lv m L)(s j:Int){v:Int}(hv:aI v)(i:Nat)(hi:(bI s m.ring*8+j).toNat=i)(hil:i<m.sigs.length):BK w p hb sb cb lv m (m.setSig s j v) L ⟨sb,i,none⟩ v:=by
 subst hi
 have hnd:=h.apart
 simp only[List.nodup_cons,List.mem_cons,not_or]at hnd
 obtain⟨⟨n1,n2,n3,n4⟩,⟨n5,n6,n7⟩,⟨n8,n9⟩,n10,n11⟩:=hnd
 obtain⟨n,xs,hn,hr⟩:=h.log
 refine⟨⟨al h.blk (by simpa using n2),al h.heads (by simpa using n5),?_,al h.cells (by simpa using Ne.symm n8),⟨n,xs,hn,hr.keep fun x hx=>heap_setCell_other _ _ _ _ (by simp;exact fun e=>n9 (e▸hx))⟩,h.apart,h.ok.setSig s j hv⟩,by simp,n9,by simp,?_,(h.frozen _).2.2.1⟩
 ·have h2:=ab (i:=(bI s m.ring*8+j).toNat) (v:=.int .i64 v) h.sigs
  rw[gW]at h2
  exact h2
 ·exact⟨_,(cell_of_row w sb _ _ _ _ h.sigs).trans (ej _ _ hil)⟩
theorem u7{w:World}{p hb sb cb:Nat}{lv:Value}{m:au}{L:Nat}(h:dW w p hb sb cb lv m L)(c:Int){v:Int}(hv:aI v)(i:Nat)(hi:c.toNat=i)(hil:i<m.cells.length):BK w p hb sb cb lv m (m.setCell c v) L ⟨cb,i,none⟩ v:=by
 subst hi
 have hnd:=h.apart
 simp only[List.nodup_cons,List.mem_cons,not_or]at hnd
 obtain⟨⟨n1,n2,n3,n4⟩,⟨n5,n6,n7⟩,⟨n8,n9⟩,n10,n11⟩:=hnd
 obtain⟨n,xs,hn,hr⟩:=h.log
 have hl:(m.setCell c v).cells.length=m.cells.length:=by simp[au.setCell]
 refine⟨⟨?_,al h.heads (by simpa using n6),al h.sigs (by simpa using n8),?_,⟨n,xs,hn,hr.keep fun x hx=>heap_setCell_other _ _ _ _ (by simp;exact fun e=>n10 (e▸hx))⟩,h.apart,h.ok.setCell c hv⟩,by simp,n10,by simp,?_,(h.frozen _).2.2.2⟩
 ·rw[hl]
  exact al h.blk (by simpa using n3)
 ·have h2:=ab (i:=c.toNat) (v:=.int .i64 v) h.cells
  rw[gW]at h2
  exact h2
 ·exact⟨_,(cell_of_row w cb _ _ _ _ h.cells).trans (ej _ _ hil)⟩
end Go.Proofs.YtgfogfciobmmpaaGreatDoor
