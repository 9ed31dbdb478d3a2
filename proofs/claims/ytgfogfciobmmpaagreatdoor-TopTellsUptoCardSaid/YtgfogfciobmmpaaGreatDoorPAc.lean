/- A part of the proof of the law TopTells: Ok. -/
import Derived.Test.YtgfogfciobmmpaaGreatDoorPAa
set_option linter.unusedSimpArgs false
set_option linter.unusedVariables false
set_option maxRecDepth 100000
set_option maxHeartbeats 8000000
namespace Go.Proofs.YtgfogfciobmmpaaGreatDoor
section
open Go.RowKit
def I64 (v:Int):Prop:=-9223372036854775808≤v∧v≤9223372036854775807
def W64 (v:Int):Prop:=0≤v∧v < 18446744073709551616
def SigOk (s:List Int):Prop:=s.length=8∧∀ x∈s,W64 x
structure MemOk (m:MemD):Prop where
 new:I64 m.newest
 ring:1≤m.heads.length∧m.heads.length≤16
 sigs:m.sigs.length=8 * m.heads.length
 cells:1≤m.cells.length∧m.cells.length≤1024
 h64:∀ x∈m.heads,I64 x
 s64:∀ x∈m.sigs,I64 x
 c64:∀ x∈m.cells,I64 x
theorem getD_I64 {l:List Int} (h:∀ x∈l,I64 x) (i:Nat):I64 (l.getD i 0):=by
 rw [List.getD_eq_getElem?_getD]
 rcases Nat.lt_or_ge i l.length with hi | hi
 · rw [List.getElem?_eq_getElem hi];exact h _ (List.getElem_mem hi)
 · rw [List.getElem?_eq_none hi];simp [I64]
theorem set_I64 {l:List Int} (h:∀ x∈l,I64 x) (i:Nat) {v:Int} (hv:I64 v):∀ x∈l.set i v,I64 x:=fun x hx=>by
 rcases List.mem_or_eq_of_mem_set hx with h' | h'
 · exact h x h'
 · rw [h'];exact hv
theorem getD_W64 {l:List Int} (h:∀ x∈l,W64 x) (i:Nat):W64 (l.getD i 0):=by
 rw [List.getD_eq_getElem?_getD]
 rcases Nat.lt_or_ge i l.length with hi | hi
 · rw [List.getElem?_eq_getElem hi];exact h _ (List.getElem_mem hi)
 · rw [List.getElem?_eq_none hi];simp [W64]
theorem sig_zero:SigOk zero8:=⟨rfl,fun x hx=>by
 unfold zero8 at hx
 simp at hx
 subst hx
 unfold W64
 omega⟩
theorem si64_I64 {x:Int} (h:W64 x):I64 (si64 x):=by
 unfold W64 at h
 unfold si64 I64
 split <;> omega
theorem nextW_le (r:List Int):∀ (f j:Nat),j≤8→nextW r f j≤8
 | 0,j,h=>h
 | f+1,j,h=>by
   unfold nextW
   split
   · rename_i hc
     exact nextW_le r f (j+1) (by omega)
   · exact h
theorem nextW_none (r:List Int):∀ (f j:Nat),8≤f+j→nextW r f j=8→∀ i,j≤i→i < 8→r.getD i 0=0
 | 0,j,hf,_,i,h1,h2=>by omega
 | f+1,j,hf,h,i,h1,h2=>by
   unfold nextW at h
   split at h
   · rename_i hc
     by_cases e:i=j
     · subst e;exact hc.2
     · exact nextW_none r f (j+1) (by omega) h i (by omega) h2
   · omega
theorem nextW_some {r:List Int} (hr:r.length=8) (hz:r≠zero8):nextW r 8 0 < 8:=by
 have h1:=nextW_le r 8 0 (by omega)
 rcases Nat.lt_or_ge (nextW r 8 0) 8 with h | h
 · exact h
 · exfalso
   have h2:=nextW_none r 8 0 (by omega) (by omega)
   apply hz
   apply List.ext_getElem?
   intro i
   rcases Nat.lt_or_ge i 8 with hi | hi
   · have h3:=h2 i (Nat.zero_le _) hi
     rw [List.getD_eq_getElem?_getD,List.getElem?_eq_getElem (by omega)] at h3
     rw [List.getElem?_eq_getElem (by omega)]
     have h3:r[i]=0:=h3
     rw [h3]
     match i,hi with
     | 0,_=>rfl
     | 1,_=>rfl
     | 2,_=>rfl
     | 3,_=>rfl
     | 4,_=>rfl
     | 5,_=>rfl
     | 6,_=>rfl
     | 7,_=>rfl
   · rw [List.getElem?_eq_none (by omega),List.getElem?_eq_none (by simp [zero8];omega)]
structure BegOk (b:BegD) (r:Int):Prop where
 size:b.size=r
 state:b.state=0∨b.state=1
 seen:I64 b.seen
 at64:I64 b.at_
 at1:b.state=1→1≤b.at_∧1≤b.seen
theorem beg_step {m:MemD} {b:BegD} {r:Int} (hm:MemOk m) (h:BegOk b r) :
   ((begStep m b).1=moved∧BegOk (begStep m b).2 r)∨((begStep m b).1=doneA 0∧(begStep m b).2.state=2∧0≤(begStep m b).2.at_∧I64 (begStep m b).2.at_∧I64 (begStep m b).2.seen):=by
 obtain ⟨h1,h2,h3,h4,h5⟩:=h
 have hn:=hm.new
 unfold I64 at *
 unfold begStep
 rw [if_neg (by omega)]
 split
 · split
   · exact .inr ⟨rfl,rfl,Int.le_refl _,by simp only;omega,hn⟩
   · exact .inl ⟨rfl,h1,.inr rfl,hn,hn,fun _=>by simp only;omega⟩
 · have h6:=h5 (by omega)
   split
   · exact .inr ⟨rfl,rfl,by simp only;omega,h4,h3⟩
   · split
     · exact .inr ⟨rfl,rfl,by simp only;omega,by simp only;omega,h3⟩
     · exact .inl ⟨rfl,h1,h2,h3,by simp only [I64];omega,fun _=>by simp only;omega⟩
structure ChkOk (c:ChkD) (r:Int):Prop where
 size:c.size=r
 from0:0≤c.from_
 from64:I64 c.from_
 reads:SigOk c.reads
 state:0≤c.state∧c.state≤3
 start:0≤c.start
 start64:I64 c.start
 seen:I64 c.seen
 at64:I64 c.at_
 word:0≤c.word∧c.word≤8
 looks:c.state=1∨c.state=2→c.from_ < c.at_∧c.at_≤c.seen∧c.reads≠zero8
 word2:c.state=2→c.word < 8
theorem chk_new {size from_:Int} {reads:List Int} (last:Bool) (h0:0≤from_) (h1:I64 from_) (h2:SigOk reads):ChkOk (newChk size from_ reads last) size :=
 ⟨rfl,h0,h1,h2,⟨Int.le_refl _,by simp [newChk]⟩,h0,h1,by simp [newChk,I64],by simp [newChk,I64],by simp [newChk],fun h=>by simp [newChk] at h,fun h=>by simp [newChk] at h⟩
inductive ChkOut (c:ChkD) (r:Int):AnsD→ChkD→Prop
 | moved {c'}:ChkOk c' r→c'.from_=c.from_→c'.reads=c.reads→ChkOut c r moved c'
 | waits:ChkOk c r→c.state=1→ChkOut c r waits c
 | done {c'}:c'.state=4→0≤c'.start→I64 c'.start→I64 c'.seen→ChkOut c r (doneA 0) c'
 | fail {e c'}:(e=3∨e=4)→c'.state=5→ChkOut c r (failA e) c'
theorem chk_step {m:MemD} {c:ChkD} {r:Int} (hm:MemOk m) (h:ChkOk c r):ChkOut c r (chkStep m c).1 (chkStep m c).2:=by
 obtain ⟨h1,h2,h3,h4,h5,h6,h7,h8,h9,h10,h11,h12⟩:=h
 have hn:=hm.new
 unfold chkStep
 rw [if_neg (by omega)]
 split
 · split
   · exact .done rfl h6 h7 hn
   · split
     · exact .fail (.inr rfl) rfl
     · rename_i hs hz hf
       refine .moved ⟨h1,h2,h3,h4,by simp,h6,h7,hn,?_,h10,fun _=>⟨by simp only;omega,by simp only;omega,fun e=>hz (.inl e)⟩,fun h=>by simp at h⟩ rfl rfl
       unfold I64 at *
       simp only
       omega
 · split
   · rename_i hs
     have h11':=h11 (.inl hs)
     split
     · exact .waits ⟨h1,h2,h3,h4,h5,h6,h7,h8,h9,h10,h11,h12⟩ hs
     · split
       · exact .fail (.inr rfl) rfl
       · have hw:=nextW_some h4.1 h11'.2.2
         refine .moved ⟨h1,h2,h3,h4,by simp,?_,?_,h8,h9,by simp only;omega,fun _=>h11',fun _=>by simp only;omega⟩ rfl rfl
         · simp only
           split <;> omega
         · simp only
           split
           · exact h9
           · exact h7
   · split
     · rename_i hs
       have h11':=h11 (.inr hs)
       have hw8:=h12 hs
       have hle:=nextW_le c.reads 8 (c.word.toNat+1) (by omega)
       split
       · exact .fail (.inl rfl) rfl
       · split
         · exact .moved ⟨h1,h2,h3,h4,by simp,h6,h7,h8,h9,by simp only;omega,fun _=>h11',fun _=>by simp only;omega⟩ rfl rfl
         · split
           · refine .moved ⟨h1,h2,h3,h4,by simp,h6,h7,h8,?_,by simp only;omega,fun _=>⟨by simp only;omega,by simp only;omega,h11'.2.2⟩,fun h=>by simp at h⟩ rfl rfl
             unfold I64 at *
             simp only
             omega
           · split
             · exact .moved ⟨h1,h2,h3,h4,by simp,h6,h7,h8,h9,by simp only;omega,fun h=>by simp at h,fun h=>by simp at h⟩ rfl rfl
             · exact .done rfl h6 h7 h8
     · split
       · exact .fail (.inr rfl) rfl
       · exact .done rfl h6 h7 h8
theorem chk_first {m:MemD} {c:ChkD} (h0:c.state=0):(chkStep m c).1≠waits:=by
 unfold chkStep
 rw [if_neg (by omega),if_pos h0]
 split
 · simp [doneA,waits]
 · split <;> simp [failA,moved,waits]
structure FetOk (x:FetD) (m:MemD) (r:Int):Prop where
 chk:ChkOk x.chk r
 cell:0≤x.cell∧x.cell < m.cells.length
 val:I64 x.value
 first:x.read=false→x.chk.state=0
inductive FetOut (m:MemD) (r:Int):AnsD→FetD→Prop
 | moved {x}:FetOk x m r→FetOut m r moved x
 | waits {x}:FetOk x m r→FetOut m r waits x
 | done {x} (v:Int):I64 v→0≤x.chk.start→I64 x.chk.start→I64 x.chk.seen→FetOut m r (doneA v) x
 | fail {e x}:(e=3∨e=4)→FetOut m r (failA e) x
theorem fet_step {m:MemD} {x:FetD} {r:Int} (hm:MemOk m) (h:FetOk x m r):FetOut m r (fetStep m x).1 (fetStep m x).2:=by
 obtain ⟨h1,h2,h3,h4⟩:=h
 unfold fetStep
 split
 · exact .moved ⟨h1,h2,getD_I64 hm.c64 _,fun h=>by cases h⟩
 · rename_i hr
   have hc:=chk_step hm h1
   generalize chkStep m x.chk=R at *
   obtain ⟨a,c⟩:=R
   simp only at hc
   cases hc with
   | moved k1 k2 k3 =>
     rw [if_neg (by simp [moved])]
     exact .moved ⟨k1,h2,h3,fun h=>absurd h hr⟩
   | waits k1 k2 =>
     rw [if_neg (by simp [waits])]
     exact .waits ⟨k1,h2,h3,fun h=>absurd h hr⟩
   | done k1 k2 k3 k4 =>
     rw [if_pos (by rfl)]
     exact .done x.value h3 k2 k3 k4
   | fail k1 k2 =>
     rw [if_neg (by simp [failA])]
     exact .fail k1
structure ComOk (c:ComD) (r:Int):Prop where
 ring:c.ring=r
 stamps:1≤c.stamps∧c.stamps≤1099511627776
 start:0≤c.start
 start64:I64 c.start
 reads:SigOk c.reads
 state:0≤c.state∧c.state≤2
 chk:c.state=0→ChkOk c.chk r
 seen:c.state≠0→0≤c.seen∧c.seen < c.stamps
inductive ComOut (m:MemD) (r:Int):AnsD→ComD→MemD→Prop
 | moved {c}:ComOk c r→ComOut m r moved c m
 | waits {c}:ComOk c r→ComOut m r waits c m
 | done {c} (s:Int):1≤s→s≤c.stamps→s≤1099511627776→m.newest=s - 1→ComOut m r (doneA s) c { m with newest:=s }
 | fail {e c}:(e=3∨e=4∨e=6)→ComOut m r (failA e) c m
theorem com_step {m:MemD} {c:ComD} {r:Int} (hm:MemOk m) (h:ComOk c r):ComOut m r (comStep m c).1 (comStep m c).2.1 (comStep m c).2.2:=by
 obtain ⟨h1,h2,h3,h4,h5,h6,h7,h8⟩:=h
 unfold comStep
 rw [if_neg (by omega)]
 split
 · rename_i h0
   have hc:=chk_step hm (h7 h0)
   generalize chkStep m c.chk=R at *
   obtain ⟨a,k⟩:=R
   simp only at hc
   cases hc with
   | moved k1 k2 k3 =>
     rw [if_neg (by simp [moved]),if_neg (by simp [moved])]
     exact .moved ⟨h1,h2,h3,h4,h5,h6,fun _=>k1,fun h=>absurd h0 h⟩
   | waits k1 k2 =>
     rw [if_neg (by simp [waits]),if_neg (by simp [waits])]
     exact .waits ⟨h1,h2,h3,h4,h5,h6,h7,fun h=>absurd h0 h⟩
   | done k1 k2 k3 k4 =>
     rw [if_neg (by simp [doneA]),if_pos (by rfl)]
     by_cases hq:k.seen < 0∨c.stamps≤k.seen
     · rw [if_pos hq]
       exact .fail (.inr (.inr rfl))
     · rw [if_neg hq]
       have hq':0≤k.seen∧k.seen < c.stamps:=by omega
       split
       · exact .moved ⟨h1,h2,h3,h4,h5,(by decide:(0:Int)≤1∧(1:Int)≤2),fun h=>absurd (show (1:Int)=0 from h) (by decide),fun _=>hq'⟩
       · exact .moved ⟨h1,h2,h3,h4,h5,(by decide:(0:Int)≤2∧(2:Int)≤2),fun h=>absurd (show (2:Int)=0 from h) (by decide),fun _=>hq'⟩
   | fail k1 k2 =>
     rw [if_pos (by rfl)]
     exact .fail (k1.elim .inl (fun h=>.inr (.inl h)))
 · rename_i h0
   have h8':=h8 h0
   split
   · by_cases hg:(if c.multi=true then freeH (m.head (c.seen+1)) (c.seen+1) c.ring else overH (m.head c.seen) c.seen)=true
     · rw [if_pos hg]
       exact .moved ⟨h1,h2,h3,h4,h5,(by decide:(0:Int)≤2∧(2:Int)≤2),fun h=>absurd (show (2:Int)=0 from h) (by decide),fun _=>h8'⟩
     · rw [if_neg hg]
       exact .waits ⟨h1,h2,h3,h4,h5,h6,h7,h8⟩
   · split
     · exact .done (c.seen+1) (by omega) (by simp only;omega) (by omega) (by omega)
     · refine .moved ⟨h1,h2,h3,h4,h5,by simp,fun _=>?_,fun h=>by simp at h⟩
       simp only
       rw [h1]
       exact chk_new false h3 h4 h5
theorem bits_W64 (op:BinOp) (x y:Int):W64 (bits op .u64 x y):=by
 unfold bits W64
 rw [IntKind.wrap_u64]
 omega
theorem withBit_ok {s:List Int} (h:SigOk s) (k:Nat):SigOk (withBit s k):=by
 unfold withBit
 refine ⟨by simp [h.1],fun x hx=>?_⟩
 rcases List.mem_or_eq_of_mem_set hx with h' | h'
 · exact h.2 x h'
 · rw [h'];exact bits_W64 _ _ _
theorem withC_ok {s:List Int} (h:SigOk s) (c:Int):SigOk (withC s c):=withBit_ok h _
theorem foldl_sig:∀ (l:List (Int×Int)) {s:List Int},SigOk s→SigOk (l.foldl (fun s w=>withC s w.1) s)
 | [],_,h=>h
 | x::l,_,h=>foldl_sig l (withC_ok h x.1)
theorem sigOf_ok (l:List (Int×Int)):SigOk (sigOf l):=foldl_sig l sig_zero
theorem MemOk.setHead {m:MemD} (h:MemOk m) (s:Int) {v:Int} (hv:I64 v):MemOk (m.setHead s v) :=
 ⟨h.new,by simp [MemD.setHead,h.ring],by simp [MemD.setHead,h.sigs],h.cells,set_I64 h.h64 _ hv,h.s64,h.c64⟩
theorem MemOk.setSig {m:MemD} (h:MemOk m) (s j:Int) {v:Int} (hv:I64 v):MemOk (m.setSig s j v) :=
 ⟨h.new,h.ring,by simp [MemD.setSig,h.sigs],h.cells,h.h64,set_I64 h.s64 _ hv,h.c64⟩
theorem MemOk.setCell {m:MemD} (h:MemOk m) (c:Int) {v:Int} (hv:I64 v):MemOk (m.setCell c v) :=
 ⟨h.new,h.ring,h.sigs,by simp [MemD.setCell,h.cells],h.h64,h.s64,set_I64 h.c64 _ hv⟩
theorem MemOk.setNew {m:MemD} (h:MemOk m) {v:Int} (hv:I64 v):MemOk { m with newest:=v }:=⟨hv,h.ring,h.sigs,h.cells,h.h64,h.s64,h.c64⟩
def ListOk (l:List (Int×Int)) (n:Nat):Prop:=∀ x∈l,0≤x.1∧x.1 < n∧I64 x.2
structure BakOk (b:BakD) (m:MemD) (r:Int):Prop where
 size:b.size=r
 stamp:1≤b.stamp∧b.stamp≤1099511627776
 len:b.l.length≤24
 list:ListOk b.l m.cells.length
 sig:SigOk b.sig
 most:b.most=mostOf b.l
 left:b.left≤b.l.length
 laid:b.laid≤8
 next:b.next≤6
 at_:b.next=1∨b.next=2∨b.next=3→1≤b.at_∧b.at_ < b.stamp
 at64:I64 b.at_
 word : -1≤b.word∧b.word≤8
 word2:b.next=2→0≤b.word∧b.word < 8
 wr:b.next=4→0 < b.left
structure BakP (b:BakD) (m:MemD) (r:Int):Prop where
 size:b.size=r
 stamp:1≤b.stamp∧b.stamp≤1099511627776
 len:b.l.length≤24
 list:ListOk b.l m.cells.length
 sig:SigOk b.sig
 most:b.most=mostOf b.l
 left:b.left≤b.l.length
 laid:b.laid≤8
 at64:I64 b.at_
 word : -1≤b.word∧b.word≤8
theorem BakOk.p {b:BakD} {m:MemD} {r:Int} (h:BakOk b m r):BakP b m r:=⟨h.size,h.stamp,h.len,h.list,h.sig,h.most,h.left,h.laid,h.at64,h.word⟩
theorem ready_ok {b:BakD} {m:MemD} {r:Int} (h:BakP b m r):BakOk (readyB b) m r:=by
 obtain ⟨h1,h2,h3,h4,h5,h6,h7,h8,h9,h10⟩:=h
 unfold readyB
 refine ⟨h1,h2,h3,h4,h5,h6,h7,h8,?_,?_,h9,h10,?_,?_⟩
 all_goals
   simp only
   split
   · first | omega | (intro h;first | omega | assumption) | simp
   · split
     · first | omega | (intro h;first | omega | assumption) | simp
     · first | omega | (intro h;first | omega | assumption) | simp
theorem older_ok {b:BakD} {m:MemD} {r:Int} (h:BakP b m r) {s:Int} (h0:0≤s) (h1:s < b.stamp):BakOk (olderB b s) m r:=by
 obtain ⟨k1,k2,k3,k4,k5,k6,k7,k8,k9,k10⟩:=h
 unfold olderB
 have hs:I64 s:=by unfold I64;omega
 split
 · exact ready_ok ⟨k1,k2,k3,k4,k5,k6,k7,k8,hs,k10⟩
 · exact ⟨k1,k2,k3,k4,k5,k6,k7,k8,by simp,fun _=>by simp only;omega,hs,k10,fun h=>by simp at h,fun h=>by simp at h⟩
theorem over_ok {b:BakD} {m:MemD} {r:Int} (h:BakP b m r):BakOk (overB b) m r :=
 ready_ok ⟨h.size,h.stamp,h.len,h.list,h.sig,h.most,h.left,h.laid,h.at64,h.word⟩
theorem wording_ok {b:BakD} {m:MemD} {r:Int} (h:BakP b m r) (ha:1≤b.at_∧b.at_ < b.stamp) {j:Nat} (hj:j≤8):BakOk (wordingB b j) m r:=by
 obtain ⟨k1,k2,k3,k4,k5,k6,k7,k8,k9,k10⟩:=h
 have hle:=nextW_le b.sig 8 j hj
 unfold wordingB
 split
 · exact ⟨k1,k2,k3,k4,k5,k6,k7,k8,by simp,fun _=>ha,k9,by simp only;omega,fun _=>by simp only;omega,fun h=>by simp at h⟩
 · exact older_ok (b:={ b with word:=nextW b.sig 8 j }) ⟨k1,k2,k3,k4,k5,k6,k7,k8,k9,by simp only;omega⟩ (s:=b.at_ - 1) (by omega) (by simp only;omega)
inductive BakOut (m:MemD) (r:Int):AnsD→BakD→MemD→Prop
 | moved {b m'}:BakOk b m' r→MemOk m'→m'.ring=m.ring→m'.cells.length=m.cells.length→m'.newest=m.newest→BakOut m r moved b m'
 | waits {b}:BakOk b m r→BakOut m r waits b m
 | done {b m'}:MemOk m'→m'.ring=m.ring→m'.cells.length=m.cells.length→m'.newest=m.newest→BakOut m r (doneA 0) b m'
theorem BakP.mem {b:BakD} {m m':MemD} {r:Int} (h:BakP b m r) (hc:m'.cells.length=m.cells.length):BakP b m' r :=
 ⟨h.size,h.stamp,h.len,by rw [hc];exact h.list,h.sig,h.most,h.left,h.laid,h.at64,h.word⟩
theorem bak_step {m:MemD} {b:BakD} {r:Int} (hm:MemOk m) (h:BakOk b m r):BakOut m r (bakStep m b).1 (bakStep m b).2.1 (bakStep m b).2.2:=by
 have hp:=h.p
 obtain ⟨k1,k2,k3,k4,k5,k6,k7,k8,k9,k10,k11,k12,k13,k14⟩:=h
 have hh:∀ d,I64 (headI b.stamp d):=fun d=>by unfold headI I64;split <;> omega
 unfold bakStep
 split
 · rename_i hn
   split
   · rename_i hl
     have hw:I64 (si64 (b.sig.getD b.laid 0)):=si64_I64 (getD_W64 k5.2 _)
     refine .moved ⟨k1,k2,k3,k4,k5,k6,k7,by simp only;omega,k9,fun h=>by simp [hn] at h,k11,k12,fun h=>by simp [hn] at h,fun h=>by simp [hn] at h⟩ (hm.setSig _ _ hw) rfl rfl rfl
   · refine .moved ?_ (hm.setHead _ (hh _)) (by simp [MemD.setHead,MemD.ring]) rfl rfl
     split
     · exact ready_ok (hp.mem rfl)
     · exact older_ok (m:=m.setHead b.stamp (headI b.stamp false)) (s:=b.stamp - 1) (hp.mem rfl) (by omega) (by omega)
 · rename_i hn
   have ha:=k10 (.inl hn)
   split
   · exact .moved (over_ok hp) hm rfl rfl rfl
   · split
     · exact .moved (wording_ok hp ha (by omega)) hm rfl rfl rfl
     · exact .waits ⟨k1,k2,k3,k4,k5,k6,k7,k8,k9,k10,k11,k12,k13,k14⟩
 · rename_i hn
   have ha:=k10 (.inr (.inl hn))
   have hw:=k13 hn
   split
   · exact .moved ⟨k1,k2,k3,k4,k5,k6,k7,k8,by simp,fun _=>ha,k11,k12,fun h=>by simp at h,fun h=>by simp at h⟩ hm rfl rfl rfl
   · exact .moved (wording_ok hp ha (by omega)) hm rfl rfl rfl
 · rename_i hn
   split
   · exact .moved (over_ok hp) hm rfl rfl rfl
   · exact .waits ⟨k1,k2,k3,k4,k5,k6,k7,k8,k9,k10,k11,k12,k13,k14⟩
 · rename_i hn
   have hl:=k14 hn
   have hx:b.l.getD (b.l.length - b.left) (0,0)∈b.l:=by
     rw [List.getD_eq_getElem?_getD,List.getElem?_eq_getElem (by omega)];simp
   have hv:=k4 _ hx
   refine .moved (ready_ok ⟨k1,k2,k3,?_,k5,k6,by simp only;omega,k8,k11,k12⟩) (hm.setCell _ hv.2.2) rfl (by simp [MemD.setCell]) rfl
   simpa [MemD.setCell] using k4
 · split
   · exact .moved (ready_ok ⟨k1,k2,k3,k4,k5,k6,k7,k8,k11,k12⟩) hm rfl rfl rfl
   · exact .waits ⟨k1,k2,k3,k4,k5,k6,k7,k8,k9,k10,k11,k12,k13,k14⟩
 · exact .done (hm.setHead _ (hh _)) (by simp [MemD.setHead,MemD.ring]) rfl rfl
 · exfalso
   rcases (show b.next=0∨b.next=1∨b.next=2∨b.next=3∨b.next=4∨b.next=5∨b.next=6 by omega) with h | h | h | h | h | h | h <;> simp_all
end
end Go.Proofs.YtgfogfciobmmpaaGreatDoor
