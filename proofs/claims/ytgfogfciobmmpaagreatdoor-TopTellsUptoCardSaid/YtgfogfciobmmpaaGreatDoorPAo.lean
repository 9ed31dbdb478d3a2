/- A part of the proof of the law TopTells: Tx Tab Row Find Job Facts Facts2 PlcPFrame Open AppA. -/
import Derived.Test.YtgfogfciobmmpaaGreatDoorPAh
import Derived.Test.YtgfogfciobmmpaaGreatDoorPAm
import Derived.Deep.LoopGhost
import Derived.WalkMore
import Derived.ProofKit
import Derived.SizedLaws
import Derived.Deep.Fields
import Derived.Deep.Slices
import Derived.OpenShut
import Derived.Deep.AppendLies
import Derived.Deep.Upon
import Derived.Lib.AppendZeros
set_option linter.unusedSimpArgs false
set_option linter.unusedVariables false
set_option maxRecDepth 100000
set_option maxHeartbeats 8000000
namespace Go.Proofs.YtgfogfciobmmpaaGreatDoor
section
open Go.RowKit
theorem chk_keep (m:MemD) (c:ChkD):(chkStep m c).2.from_=c.from_∧(chkStep m c).2.reads=c.reads∧(chkStep m c).2.last=c.last:=by
 unfold chkStep
 repeat' split
 all_goals exact ⟨rfl,rfl,rfl⟩
theorem fet_keep (m:MemD) (x:FetD):(fetStep m x).2.chk.from_=x.chk.from_∧(fetStep m x).2.chk.reads=x.chk.reads∧(fetStep m x).2.chk.last=x.chk.last:=by
 unfold fetStep
 split
 · exact ⟨rfl,rfl,rfl⟩
 · exact chk_keep m x.chk
theorem com_keep (m:MemD) (c:ComD):(comStep m c).2.1.start=c.start∧(comStep m c).2.1.reads=c.reads∧(comStep m c).2.1.stamps=c.stamps∧(comStep m c).2.1.multi=c.multi ∧
   ((comStep m c).2.1.state=0→(c.state=0∧(comStep m c).2.1.chk.from_=c.chk.from_∧(comStep m c).2.1.chk.reads=c.chk.reads∧(comStep m c).2.1.chk.last=c.chk.last) ∨
     ((comStep m c).2.1.chk.from_=c.start∧(comStep m c).2.1.chk.reads=c.reads∧(comStep m c).2.1.chk.last=false)):=by
 obtain ⟨k1,k2,k3⟩:=chk_keep m c.chk
 unfold comStep
 generalize chkStep m c.chk=R at *
 obtain ⟨a,d⟩:=R
 simp only at *
 split
 · refine ⟨rfl,rfl,rfl,rfl,fun h=>?_⟩
   exfalso
   rename_i h3
   simp only at h
   omega
 · split
   · rename_i h0
     split
     · exact ⟨rfl,rfl,rfl,rfl,fun h=>absurd (show (4:Int)=0 from h) (by decide)⟩
     · split
       · split
         · exact ⟨rfl,rfl,rfl,rfl,fun h=>absurd (show (4:Int)=0 from h) (by decide)⟩
         · split
           · exact ⟨rfl,rfl,rfl,rfl,fun h=>absurd (show (1:Int)=0 from h) (by decide)⟩
           · exact ⟨rfl,rfl,rfl,rfl,fun h=>absurd (show (2:Int)=0 from h) (by decide)⟩
       · exact ⟨rfl,rfl,rfl,rfl,fun _=>.inl ⟨h0,k1,k2,k3⟩⟩
   · rename_i h0
     split
     · by_cases hg:(if c.multi=true then freeH (m.head (c.seen+1)) (c.seen+1) c.ring else overH (m.head c.seen) c.seen)=true
       · rw [if_pos hg]
         exact ⟨rfl,rfl,rfl,rfl,fun h=>absurd (show (2:Int)=0 from h) (by decide)⟩
       · rw [if_neg hg]
         exact ⟨rfl,rfl,rfl,rfl,fun h=>absurd h h0⟩
     · split
       · exact ⟨rfl,rfl,rfl,rfl,fun h=>absurd (show (3:Int)=0 from h) (by decide)⟩
       · exact ⟨rfl,rfl,rfl,rfl,fun _=>.inr ⟨rfl,rfl,rfl⟩⟩
theorem ready_keep (b:BakD):(readyB b).stamp=b.stamp∧(readyB b).multi=b.multi∧(readyB b).sig=b.sig:=⟨rfl,rfl,rfl⟩
theorem older_keep (b:BakD) (s:Int):(olderB b s).stamp=b.stamp∧(olderB b s).multi=b.multi∧(olderB b s).sig=b.sig:=by
 unfold olderB
 split <;> exact ⟨rfl,rfl,rfl⟩
theorem wording_keep (b:BakD) (j:Nat):(wordingB b j).stamp=b.stamp∧(wordingB b j).multi=b.multi∧(wordingB b j).sig=b.sig:=by
 unfold wordingB
 split
 · exact ⟨rfl,rfl,rfl⟩
 · exact older_keep _ _
theorem bak_keep (m:MemD) (b:BakD):(bakStep m b).2.1.stamp=b.stamp∧(bakStep m b).2.1.multi=b.multi∧(bakStep m b).2.1.sig=b.sig:=by
 unfold bakStep
 split
 · split
   · exact ⟨rfl,rfl,rfl⟩
   · simp only
     split
     · exact ready_keep b
     · exact older_keep b _
 · split
   · exact ⟨rfl,rfl,rfl⟩
   · split
     · exact wording_keep b _
     · exact ⟨rfl,rfl,rfl⟩
 · split
   · exact ⟨rfl,rfl,rfl⟩
   · exact wording_keep b _
 · split <;> exact ⟨rfl,rfl,rfl⟩
 · exact ⟨rfl,rfl,rfl⟩
 · split <;> exact ⟨rfl,rfl,rfl⟩
 · exact ⟨rfl,rfl,rfl⟩
 · exact ⟨rfl,rfl,rfl⟩
structure CfgD where
 ring:Int
 writes:Int
 stamps:Int
 multi:Bool
structure CfgOk (c:CfgD):Prop where
 ring:1≤c.ring∧c.ring≤16
 writes:1≤c.writes∧c.writes≤24
 stamps:1≤c.stamps∧c.stamps≤1099511627776
def WayOk (t:TxD) (m:MemD):Prop :=
 match t.way with
 | .no=>t.phase=0∨t.phase=2
 | .beg b=>t.phase=1∧BegOk b t.ring
 | .fet x=>t.phase=3∧FetOk x m t.ring∧x.chk.from_=t.start∧x.chk.reads=t.reads∧x.chk.last=true
 | .com c=>t.phase=4∧ComOk c t.ring∧c.start=t.start∧c.reads=t.reads∧c.stamps=t.stamps∧c.multi=t.multi∧(c.state=0→c.chk.from_=t.start∧c.chk.reads=t.reads∧c.chk.last=false)∧t.list≠[]
 | .bak b=>t.phase=5∧BakOk b m t.ring∧b.stamp=t.stamp∧b.multi=t.multi∧b.sig=sigOf t.list
structure TxOk (c:CfgD) (t:TxD) (m:MemD):Prop where
 cfg:t.ring=c.ring∧t.writes=c.writes∧t.stamps=c.stamps∧t.multi=c.multi
 mring:m.ring=c.ring
 list:ListOk t.list m.cells.length
 len:(t.list.length:Int)≤t.writes
 nodup:(t.list.map (·.1)).Nodup
 wrote:SigOk t.wrote
 reads:SigOk t.reads
 start:0≤t.start∧I64 t.start
 seen:I64 t.seen
 stamp:I64 t.stamp
 cell:0≤t.cell∧t.cell≤1024
 told:∀ e∈t.told,I64 e.value∧I64 e.start∧I64 e.seen∧I64 e.stamp∧SigOk e.sig∧(0≤e.err∧e.err≤14)∧(0≤e.kind∧e.kind≤7)∧(0≤e.cell∧e.cell≤1024)
 way:WayOk t m
def EvOk (e:EvD):Prop:=I64 e.value∧I64 e.start∧I64 e.seen∧I64 e.stamp∧SigOk e.sig∧(0≤e.err∧e.err≤14)∧(0≤e.kind∧e.kind≤7)∧(0≤e.cell∧e.cell≤1024)
theorem told_add {l:List EvD} (h:∀ e∈l,EvOk e) {e:EvD} (he:EvOk e):∀ x∈l++[e],EvOk x:=fun x hx=>by
 rcases List.mem_append.1 hx with h' | h'
 · exact h x h'
 · rw [List.mem_singleton.1 h'];exact he
theorem i64_0:I64 0:=by unfold I64;omega
theorem ev_ok (k cell v:Int) (own:Bool) (s n st:Int) (sg:List Int) (e:Int) (h1:I64 v) (h2:I64 s) (h3:I64 n) (h4:I64 st) (h5:SigOk sg) (h6:0≤e∧e≤14) (h7:0≤k∧k≤7) (h8:0≤cell∧cell≤1024):EvOk ⟨k,cell,v,own,s,n,st,sg,e⟩ :=
 ⟨h1,h2,h3,h4,h5,h6,h7,h8⟩
theorem TxOk.mem {c:CfgD} {t:TxD} {m m':MemD} (h:TxOk c t m) (hr:m'.ring=m.ring) (hc:m'.cells.length=m.cells.length):TxOk c t m':=by
 refine ⟨h.cfg,hr.trans h.mring,by rw [hc];exact h.list,h.len,h.nodup,h.wrote,h.reads,h.start,h.seen,h.stamp,h.cell,h.told,?_⟩
 have hw:=h.way
 unfold WayOk at *
 split
 · rename_i e;rw [e] at hw;exact hw
 · rename_i e;rw [e] at hw;exact hw
 · rename_i e;rw [e] at hw
   obtain ⟨h1,⟨k1,k2,k3,k4⟩,h3⟩:=hw
   exact ⟨h1,⟨k1,by rw [hc];exact k2,k3,k4⟩,h3⟩
 · rename_i e;rw [e] at hw;exact hw
 · rename_i e;rw [e] at hw
   obtain ⟨h1,⟨k1,k2,k3,k4,k5,k6,k7,k8,k9,k10,k11,k12,k13,k14⟩,h3⟩:=hw
   exact ⟨h1,⟨k1,k2,k3,by rw [hc];exact k4,k5,k6,k7,k8,k9,k10,k11,k12,k13,k14⟩,h3⟩
theorem txOk_new {c:CfgD} (hc:CfgOk c) {m:MemD} (hm:m.ring=c.ring):TxOk c (newTx c.ring c.writes c.stamps c.multi) m :=
 ⟨⟨rfl,rfl,rfl,rfl⟩,hm,(fun x hx=>nomatch hx),by have:=hc.writes;simp [newTx];omega,by simp [newTx],sig_zero,sig_zero,⟨Int.le_refl _,i64_0⟩,i64_0,i64_0,by simp [newTx],(fun e he=>nomatch he),.inl rfl⟩
inductive TxOut (t:TxD):AnsD→List EvD→TxD→Prop
 | on {a t'}:a=moved∨a=waits→t'.phase=t.phase→t'.way≠.no→TxOut t a [] t'
 | live {v e t'}:(t.phase=1∨t.phase=3)→I64 v→(e.kind=1∨e.kind=2)→t'.phase=2→TxOut t (doneA v) [e] t'
 | pub {e t'}:t.phase=4→e.kind=4→t'.phase=5→TxOut t moved [e] t'
 | done {e t'}:t.phase=5→e.kind=5→e.err=0→t'.phase=0→TxOut t (doneA 0) [e] t'
 | fail {r e t'}:(r=3∨r=4∨r=6)→e.kind=6→e.err=r→t'.phase=0→TxOut t (failA r) [e] t'
theorem tx_over_ok {c:CfgD} {t:TxD} {m:MemD} (hcfg:t.ring=c.ring∧t.writes=c.writes∧t.stamps=c.stamps∧t.multi=c.multi) (hw:0≤t.writes) (hm:m.ring=c.ring) (hs:I64 t.stamp) (hcell:0≤t.cell∧t.cell≤1024) (ht:∀ e∈t.told,EvOk e):TxOk c (overT t) m :=
 ⟨hcfg,hm,(fun x hx=>nomatch hx),by simpa [overT] using hw,by simp [overT],sig_zero,sig_zero,⟨Int.le_refl _,i64_0⟩,i64_0,hs,hcell,ht,.inl rfl⟩
theorem tx_step {c:CfgD} {t:TxD} {m:MemD} (hc:CfgOk c) (hm:MemOk m) (h:TxOk c t m) (hw:t.way≠.no) :
   ∃ new,TxOut t (txStep m t).1 new (txStep m t).2.1∧(txStep m t).2.1.told=t.told++new∧TxOk c (txStep m t).2.1 (txStep m t).2.2∧MemOk (txStep m t).2.2∧(txStep m t).2.2.ring=m.ring∧(txStep m t).2.2.cells.length=m.cells.length:=by
 obtain ⟨ring,writes,stamps,multi,list,wrote,phase,start,seen,reads,cell,stamp,way,told⟩:=t
 obtain ⟨⟨g1,g2,g3,g4⟩,hmr,hlist,hlen,hnd,hwr,hrd,hst,hse,hsp,hce,htd,hway⟩:=h
 simp only at g1 g2 g3 g4 hlist hlen hnd hwr hrd hst hse hsp hce htd hw
 have hwp:=hc.writes
 have hov:∀ (t':TxD),t'.ring=ring→t'.writes=writes→t'.stamps=stamps→t'.multi=multi→t'.stamp=stamp→t'.cell=cell→(∀ e∈t'.told,EvOk e)→∀ m',m'.ring=m.ring→TxOk c (overT t') m' :=
   fun t' e1 e2 e3 e4 e5 e6 ht m' hm'=>tx_over_ok ⟨by omega,by omega,by omega,by rw [e4,g4]⟩ (by omega) (by omega) (by rw [e5];exact hsp) (by rw [e6];exact hce) ht
 have hend:∀ r,(r=3∨r=4∨r=6)→EvOk { ev0 with kind:=6,err:=r,start:=start,seen:=seen,sig:=reads }:=fun r hr =>
   ev_ok _ _ _ _ _ _ _ _ _ i64_0 hst.2 hse i64_0 hrd (by omega) (by decide) (by decide)
 match way,hway,hw with
 | .no,_,hw=>exact absurd rfl hw
 | .beg b,hway,_ =>
   obtain ⟨hp,hb⟩:=hway
   simp only at hp hb
   have hs:=beg_step hm hb
   unfold txStep goOnT
   simp only
   generalize begStep m b=R at *
   obtain ⟨a,b'⟩:=R
   simp only at hs
   rcases hs with ⟨rfl,k⟩ | ⟨rfl,k1,k2,k3,k4⟩
   · exact ⟨[],.on (.inl rfl) rfl (by simp [moved]),by simp [moved],⟨⟨g1,g2,g3,g4⟩,hmr,hlist,hlen,hnd,hwr,hrd,hst,hse,hsp,hce,htd,⟨hp,k⟩⟩,hm,by trivial,by trivial⟩
   · exact ⟨[_],.live (.inl hp) i64_0 (.inl rfl) rfl,rfl,⟨⟨g1,g2,g3,g4⟩,hmr,hlist,hlen,hnd,hwr,hrd,⟨k2,k3⟩,k4,hsp,hce,told_add htd (ev_ok _ _ _ _ _ _ _ _ _ i64_0 k3 k4 i64_0 sig_zero (by decide) (by decide) (by decide)),.inr rfl⟩,hm,by trivial,by trivial⟩
 | .fet x,hway,_ =>
   obtain ⟨hp,hx,e1,e2,e3⟩:=hway
   simp only at hp hx e1 e2 e3
   have hs:=fet_step hm hx
   have hk:=fet_keep m x
   unfold txStep goOnT
   simp only
   generalize fetStep m x=R at *
   obtain ⟨a,x'⟩:=R
   simp only at hs hk
   cases hs with
   | moved k=>exact ⟨[],.on (.inl rfl) rfl (by simp [moved]),by simp [moved],⟨⟨g1,g2,g3,g4⟩,hmr,hlist,hlen,hnd,hwr,hrd,hst,hse,hsp,hce,htd,⟨hp,k,hk.1.trans e1,hk.2.1.trans e2,hk.2.2.trans e3⟩⟩,hm,by trivial,by trivial⟩
   | waits k=>exact ⟨[],.on (.inr rfl) rfl (by simp [waits]),by simp [waits],⟨⟨g1,g2,g3,g4⟩,hmr,hlist,hlen,hnd,hwr,hrd,hst,hse,hsp,hce,htd,⟨hp,k,hk.1.trans e1,hk.2.1.trans e2,hk.2.2.trans e3⟩⟩,hm,by trivial,by trivial⟩
   | done v kv k2 k3 k4=>exact ⟨[_],.live (.inr hp) kv (.inr rfl) rfl,rfl,⟨⟨g1,g2,g3,g4⟩,hmr,hlist,hlen,hnd,hwr,hrd,⟨k2,k3⟩,k4,hsp,hce,told_add htd (ev_ok _ _ _ _ _ _ _ _ _ kv k3 k4 i64_0 sig_zero (by decide) (by decide) hce),.inr rfl⟩,hm,by trivial,by trivial⟩
   | @fail e _ k =>
     have hr:e=3∨e=4∨e=6:=by omega
     refine ⟨[{ ev0 with kind:=6,err:=e,start:=start,seen:=seen,sig:=reads }],?_,?_,?_,hm,by trivial,by trivial⟩
     rotate_left
     · show (endT _ e _).2.told=_
       rfl
     · show TxOk c (endT _ e _).2 m
       exact hov _ rfl rfl rfl rfl rfl rfl (told_add htd (hend e hr)) m rfl
     · show TxOut _ (endT _ e _).1 _ (endT _ e _).2
       unfold endT
       rw [if_neg (show ¬ e=0 by omega)]
       exact .fail hr rfl rfl rfl
 | .com x,hway,_ =>
   obtain ⟨hp,hx,e1,e2,e3,e4,e5,e6⟩:=hway
   simp only at hp hx e1 e2 e3 e4 e5 e6
   have hs:=com_step hm hx
   have hk:=com_keep m x
   unfold txStep goOnT
   simp only
   generalize comStep m x=R at *
   obtain ⟨a,x',m'⟩:=R
   simp only at hs hk
   have hk5:x'.state=0→x'.chk.from_=start∧x'.chk.reads=reads∧x'.chk.last=false:=fun h0=>by
     rcases hk.2.2.2.2 h0 with ⟨h1,h2,h3,h4⟩ | ⟨h2,h3,h4⟩
     · obtain ⟨q1,q2,q3⟩:=e5 h1
       exact ⟨h2.trans q1,h3.trans q2,h4.trans q3⟩
     · exact ⟨h2.trans e1,h3.trans e2,h4⟩
   cases hs with
   | moved k=>exact ⟨[],.on (.inl rfl) rfl (by simp [moved]),by simp [moved],⟨⟨g1,g2,g3,g4⟩,hmr,hlist,hlen,hnd,hwr,hrd,hst,hse,hsp,hce,htd,⟨hp,k,hk.1.trans e1,hk.2.1.trans e2,hk.2.2.1.trans e3,hk.2.2.2.1.trans e4,hk5,e6⟩⟩,hm,rfl,rfl⟩
   | waits k=>exact ⟨[],.on (.inr rfl) rfl (by simp [waits]),by simp [waits],⟨⟨g1,g2,g3,g4⟩,hmr,hlist,hlen,hnd,hwr,hrd,hst,hse,hsp,hce,htd,⟨hp,k,hk.1.trans e1,hk.2.1.trans e2,hk.2.2.1.trans e3,hk.2.2.2.1.trans e4,hk5,e6⟩⟩,hm,rfl,rfl⟩
   | done s k1 k2 k3 k4 =>
     have hs64:I64 s:=by unfold I64;omega
     refine ⟨[_],.pub hp rfl rfl,rfl,⟨⟨g1,g2,g3,g4⟩,hmr,hlist,hlen,hnd,hwr,hrd,hst,hse,hs64,hce,told_add htd (ev_ok _ _ _ _ _ _ _ _ _ i64_0 i64_0 i64_0 hs64 hwr (by decide) (by decide) (by decide)),⟨rfl,?_,rfl,rfl,rfl⟩⟩,hm.setNew hs64,rfl,rfl⟩
     refine ⟨rfl,⟨k1,k3⟩,by simp only [newBak];omega,hlist,sigOf_ok _,rfl,Nat.le_refl _,by simp [newBak],by simp [newBak],fun h=>by simp [newBak] at h,i64_0,by simp [newBak],fun h=>by simp [newBak] at h,fun h=>by simp [newBak] at h⟩
   | @fail e _ k =>
     refine ⟨[{ ev0 with kind:=6,err:=e,start:=start,seen:=seen,sig:=reads }],?_,?_,?_,hm,by trivial,by trivial⟩
     rotate_left
     · show (endT _ e _).2.told=_
       rfl
     · show TxOk c (endT _ e _).2 m
       exact hov _ rfl rfl rfl rfl rfl rfl (told_add htd (hend e k)) m rfl
     · show TxOut _ (endT _ e _).1 _ (endT _ e _).2
       unfold endT
       rw [if_neg (show ¬ e=0 by omega)]
       exact .fail k rfl rfl rfl
 | .bak b,hway,_ =>
   obtain ⟨hp,hb,e1,e2,e3⟩:=hway
   simp only at hp hb e1 e2 e3
   have hs:=bak_step hm hb
   have hk:=bak_keep m b
   unfold txStep goOnT
   simp only
   generalize bakStep m b=R at *
   obtain ⟨a,b',m'⟩:=R
   simp only at hs hk
   cases hs with
   | moved k h1 h2 h3 h4=>exact ⟨[],.on (.inl rfl) rfl (by simp [moved]),by simp [moved],⟨⟨g1,g2,g3,g4⟩,h2.trans hmr,by rw [h3];exact hlist,hlen,hnd,hwr,hrd,hst,hse,hsp,hce,htd,⟨hp,k,hk.1.trans e1,hk.2.1.trans e2,hk.2.2.trans e3⟩⟩,h1,h2,h3⟩
   | waits k=>exact ⟨[],.on (.inr rfl) rfl (by simp [waits]),by simp [waits],⟨⟨g1,g2,g3,g4⟩,hmr,hlist,hlen,hnd,hwr,hrd,hst,hse,hsp,hce,htd,⟨hp,k,hk.1.trans e1,hk.2.1.trans e2,hk.2.2.trans e3⟩⟩,hm,rfl,rfl⟩
   | done h1 h2 h3 h4 =>
     refine ⟨[_],.done hp rfl rfl rfl,rfl,hov _ rfl rfl rfl rfl rfl rfl (told_add htd (ev_ok _ _ _ _ _ _ _ _ _ i64_0 i64_0 i64_0 hsp sig_zero (by decide) (by decide) (by decide))) _ h2,h1,h2,h3⟩
theorem com_first {m:MemD} {c:ComD} (h0:c.state=0) (h1:c.chk.state=0):(comStep m c).1≠waits:=by
 have hk:=chk_first (m:=m) h1
 unfold comStep
 rw [if_neg (by omega),if_pos h0]
 split
 · exact hk
 · split
   · split
     · simp [failA,waits]
     · split <;> simp [moved,waits]
   · exact hk
theorem find_none {l:List (Int×Int)} {c:Int} (h:(ownT l c).isNone=true):∀ x∈l,x.1≠c:=fun x hx e=>by
 unfold ownT at h
 simp only [Option.isNone_map,Option.isNone_iff_eq_none,List.find?_eq_none] at h
 exact h x hx (by simpa using e)
theorem putT_none {l:List (Int×Int)} {c v:Int} (h:∀ x∈l,x.1≠c):putT l c v=l++[(c,v)]:=by
 unfold putT
 rw [if_neg]
 simp only [List.any_eq_true,not_exists,not_and]
 intro x hx
 simpa using h x hx
theorem putT_some {l:List (Int×Int)} {c v:Int} (h:(ownT l c).isNone=false):putT l c v=l.map (fun w=>if w.1=c then (c,v) else w):=by
 unfold putT
 rw [if_pos]
 unfold ownT at h
 simp only [Option.isNone_map] at h
 rw [List.any_eq_true]
 cases hf:l.find? (fun w=>w.1 == c) with
 | none=>rw [hf] at h;simp at h
 | some y=>exact ⟨y,List.mem_of_find?_eq_some hf,List.find?_some (p:=fun (w:Int×Int)=>w.1 == c) hf⟩
theorem map_fst_same (l:List (Int×Int)) (c v:Int):(l.map (fun w=>if w.1=c then (c,v) else w)).map (·.1)=l.map (·.1):=by
 rw [List.map_map]
 apply List.map_congr_left
 intro x _
 simp only [Function.comp]
 split
 · rename_i e;exact e.symm
 · rfl
theorem ownT_mem {l:List (Int×Int)} {c v:Int} (h:ownT l c=some v):(c,v)∈l:=by
 unfold ownT at h
 cases hf:l.find? (fun w=>w.1 == c) with
 | none=>rw [hf] at h;simp at h
 | some y =>
   rw [hf] at h
   simp at h
   have h1:=List.mem_of_find?_eq_some hf
   have h2:(y.1 == c)=true:=List.find?_some (p:=fun (w:Int×Int)=>w.1 == c) hf
   simp at h2
   obtain ⟨a,b⟩:=y
   simp at h h2
   subst h h2
   exact h1
inductive DoOut (x:WantD) (t:TxD):AnsD→List EvD→TxD→Prop
 | opened {e a new t0 t'}:x.kind=1→e.kind=7→t0.phase=1→TxOut t0 a new t'→DoOut x t a (e::new) t'
 | own {v e t'}:x.kind=2→e.kind=2→I64 v→t'.phase=2→t'.way=.no→DoOut x t ⟨3,0,v,false⟩ [e] t'
 | read {t'}:x.kind=2→t'.phase=3→t'.way≠.no→DoOut x t moved [] t'
 | wrote {e t'}:x.kind=3→e.kind=3→t'.phase=2→t'.way=.no→DoOut x t ⟨3,0,0,false⟩ [e] t'
 | big {e t'}:x.kind=3→e.kind=6→e.err=5→t'.phase=0→DoOut x t ⟨4,5,0,false⟩ [e] t'
 | empty {e t'}:x.kind=4→e.kind=6→e.err=0→t'.phase=0→DoOut x t ⟨3,0,0,false⟩ [e] t'
 | commit {a new t0 t'}:x.kind=4→t0.phase=4→a≠waits→TxOut t0 a new t'→DoOut x t a new t'
 | abort {e t'}:x.kind=5→(x.code=8∨x.code=7)→e.kind=6→e.err=x.code→t'.phase=0→DoOut x t ⟨4,x.code,0,false⟩ [e] t'
theorem tx_do {c:CfgD} {t:TxD} {m:MemD} {x:WantD} (hc:CfgOk c) (hm:MemOk m) (h:TxOk c t m) (hw:t.way=.no) (hf:fitsT m t x=true) (hx:I64 x.value) :
   ∃ new,DoOut x t (txDo m t x).1 new (txDo m t x).2.1∧(txDo m t x).2.1.told=t.told++new∧TxOk c (txDo m t x).2.1 (txDo m t x).2.2∧MemOk (txDo m t x).2.2∧(txDo m t x).2.2.ring=m.ring∧(txDo m t x).2.2.cells.length=m.cells.length:=by
 obtain ⟨ring,writes,stamps,multi,list,wrote,phase,start,seen,reads,cell,stamp,way,told⟩:=t
 have hO:=h
 obtain ⟨⟨g1,g2,g3,g4⟩,hmr,hlist,hlen,hnd,hwr,hrd,hst,hse,hsp,hce,htd,hway⟩:=h
 simp only at g1 g2 g3 g4 hlist hlen hnd hwr hrd hst hse hsp hce htd hw
 subst hw
 have hwp:=hc.writes
 have hcl:=hm.cells
 have hend:∀ (t':TxD) r,(0≤r∧r≤14)→t'.ring=ring→t'.writes=writes→t'.stamps=stamps→t'.multi=multi→t'.stamp=stamp→t'.cell=cell→t'.told=told→t'.start=start→t'.seen=seen→t'.reads=reads →
     TxOk c (overT (tellT t' { ev0 with kind:=6,err:=r,start:=t'.start,seen:=t'.seen,sig:=t'.reads })) m:=fun t' r hr e1 e2 e3 e4 e5 e6 e7 e8 e9 e10 =>
   tx_over_ok ⟨by show t'.ring=_;omega,by show t'.writes=_;omega,by show t'.stamps=_;omega,by show t'.multi=_;rw [e4,g4]⟩ (by show 0≤t'.writes;omega) hmr (by show I64 t'.stamp;rw [e5];exact hsp) (by show 0≤t'.cell∧t'.cell≤1024;rw [e6];exact hce)
     (told_add (by rw [e7];exact htd) (ev_ok _ _ _ _ _ _ _ _ _ i64_0 (by rw [e8];exact hst.2) (by rw [e9];exact hse) i64_0 (by rw [e10];exact hrd) hr (by decide) (by decide)))
 have hfn:¬ fitsT m ⟨ring,writes,stamps,multi,list,wrote,phase,start,seen,reads,cell,stamp,.no,told⟩ x=false:=by rw [hf];simp
 unfold fitsT at hf
 simp only [Bool.and_eq_true,decide_eq_true_eq] at hf
 obtain ⟨-,hf⟩:=hf
 unfold txDo
 rw [if_neg hfn]
 by_cases h1:x.kind=1
 · rw [if_pos h1] at hf ⊢
   simp only [decide_eq_true_eq] at hf
   subst hf
   have hk:TxOk c (tellT ⟨ring,writes,stamps,multi,list,wrote,1,start,seen,reads,cell,stamp,.beg ⟨ring,0,0,0⟩,told⟩ { ev0 with kind:=7 }) m :=
     ⟨⟨g1,g2,g3,g4⟩,hmr,hlist,hlen,hnd,hwr,hrd,hst,hse,hsp,hce,told_add htd (ev_ok _ _ _ _ _ _ _ _ _ i64_0 i64_0 i64_0 i64_0 sig_zero (by decide) (by decide) (by decide)),⟨rfl,rfl,.inl rfl,i64_0,i64_0,fun h=>by simp at h⟩⟩
   obtain ⟨new,k1,k2,k3,k4⟩:=tx_step hc hm hk (by simp [tellT])
   refine ⟨{ ev0 with kind:=7 }::new,.opened h1 rfl rfl k1,?_,k3,k4⟩
   rw [k2]
   simp [tellT]
 rw [if_neg h1] at hf ⊢
 by_cases h2:x.kind=2
 · rw [if_pos (.inl h2)] at hf
   rw [if_pos h2]
   simp only [decide_eq_true_eq] at hf
   obtain ⟨hp,hc0,hc1⟩:=hf
   subst hp
   split
   · rename_i v hv
     have hmem:=hlist _ (ownT_mem hv)
     exact ⟨[_],.own h2 rfl hmem.2.2 rfl rfl,rfl,⟨⟨g1,g2,g3,g4⟩,hmr,hlist,hlen,hnd,hwr,hrd,hst,hse,hsp,hce,told_add htd (ev_ok _ _ _ _ _ _ _ _ _ hmem.2.2 hst.2 hse i64_0 sig_zero (by decide) (by decide) ⟨hc0,by omega⟩),.inr rfl⟩,hm,rfl,rfl⟩
   · have hfst:∀ (k:ChkD) (rd:List Int),txStep m ⟨ring,writes,stamps,multi,list,wrote,3,start,seen,rd,x.cell,stamp,.fet ⟨k,x.cell,false,0⟩,told⟩=(moved,⟨ring,writes,stamps,multi,list,wrote,3,start,seen,rd,x.cell,stamp,.fet ⟨k,x.cell,true,m.cells.getD x.cell.toNat 0⟩,told⟩,m):=fun k rd=>by
       simp [txStep,goOnT,fetStep,moved]
     rw [hfst]
     refine ⟨[],.read h2 rfl (by simp),by simp,?_,hm,rfl,rfl⟩
     refine ⟨⟨g1,g2,g3,g4⟩,hmr,hlist,hlen,hnd,hwr,withC_ok hrd _,hst,hse,hsp,⟨hc0,by simp only;omega⟩,htd,⟨rfl,⟨chk_new true hst.1 hst.2 (withC_ok hrd _),⟨hc0,hc1⟩,getD_I64 hm.c64 _,fun h=>by simp at h⟩,rfl,rfl,rfl⟩⟩
 rw [if_neg h2]
 by_cases h3:x.kind=3
 · rw [if_pos (.inr h3)] at hf
   rw [if_pos h3]
   simp only [decide_eq_true_eq] at hf
   obtain ⟨hp,hc0,hc1⟩:=hf
   subst hp
   by_cases hb:(ownT list x.cell).isNone=true∧(list.length:Int)=writes
   · rw [if_pos hb]
     refine ⟨[_],?_,rfl,hend _ 5 (by decide) rfl rfl rfl rfl rfl rfl rfl rfl rfl rfl,hm,rfl,rfl⟩
     unfold endT
     rw [if_neg (by decide)]
     exact .big h3 rfl rfl rfl
   · rw [if_neg hb]
     refine ⟨[_],.wrote h3 rfl rfl rfl,rfl,?_,hm,rfl,rfl⟩
     have hev:EvOk { ev0 with kind:=3,cell:=x.cell,value:=x.value }:=ev_ok _ _ _ _ _ _ _ _ _ hx i64_0 i64_0 i64_0 sig_zero (by decide) (by decide) ⟨hc0,by omega⟩
     cases ho:(ownT list x.cell).isNone with
     | true =>
       have hne:=find_none ho
       have hlt:(list.length:Int)≠writes:=fun e=>hb ⟨ho,e⟩
       refine ⟨⟨g1,g2,g3,g4⟩,hmr,?_,?_,?_,withC_ok hwr _,hrd,hst,hse,hsp,hce,told_add htd hev,.inr rfl⟩
       · show ListOk (putT list x.cell x.value) _
         rw [putT_none hne]
         intro y hy
         rcases List.mem_append.1 hy with hy | hy
         · exact hlist y hy
         · rw [List.mem_singleton.1 hy];exact ⟨hc0,hc1,hx⟩
       · show ((putT list x.cell x.value).length:Int)≤writes
         rw [putT_none hne]
         simp
         omega
       · show ((putT list x.cell x.value).map (·.1)).Nodup
         rw [putT_none hne]
         simp only [List.map_append,List.map_cons,List.map_nil]
         rw [List.nodup_append]
         refine ⟨hnd,by simp,fun a ha b hb e=>?_⟩
         simp at hb
         obtain ⟨y,hy,rfl⟩:=List.mem_map.1 ha
         exact hne y hy (e.trans hb)
     | false =>
       refine ⟨⟨g1,g2,g3,g4⟩,hmr,?_,?_,?_,withC_ok hwr _,hrd,hst,hse,hsp,hce,told_add htd hev,.inr rfl⟩
       · show ListOk (putT list x.cell x.value) _
         rw [putT_some ho]
         intro y hy
         obtain ⟨z,hz,rfl⟩:=List.mem_map.1 hy
         split
         · exact ⟨hc0,hc1,hx⟩
         · exact hlist z hz
       · show ((putT list x.cell x.value).length:Int)≤writes
         rw [putT_some ho,List.length_map]
         exact hlen
       · show ((putT list x.cell x.value).map (·.1)).Nodup
         rw [putT_some ho,map_fst_same]
         exact hnd
 rw [if_neg (by omega)] at hf
 rw [if_neg h3]
 by_cases h4:x.kind=4
 · rw [if_pos h4] at hf ⊢
   simp only [decide_eq_true_eq] at hf
   subst hf
   by_cases hl:list=[]
   · rw [if_pos hl]
     refine ⟨[_],?_,rfl,hend _ 0 (by decide) rfl rfl rfl rfl rfl rfl rfl rfl rfl rfl,hm,rfl,rfl⟩
     unfold endT
     rw [if_pos rfl]
     exact .empty h4 rfl rfl rfl
   · rw [if_neg hl]
     have hk:TxOk c ⟨ring,writes,stamps,multi,list,wrote,4,start,seen,reads,cell,stamp,.com ⟨ring,stamps,multi,start,0,reads,newChk ring start reads false,0,0⟩,told⟩ m:=by
       have hss:=hc.stamps
       refine ⟨⟨g1,g2,g3,g4⟩,hmr,hlist,hlen,hnd,hwr,hrd,hst,hse,hsp,hce,htd,⟨rfl,⟨rfl,by simp only;omega,hst.1,hst.2,hrd,by simp,fun _=>chk_new false hst.1 hst.2 hrd,fun h=>absurd rfl h⟩,rfl,rfl,rfl,rfl,fun _=>⟨rfl,rfl,rfl⟩,hl⟩⟩
     obtain ⟨new,k1,k2,k3,k4⟩:=tx_step hc hm hk (by simp)
     refine ⟨new,.commit h4 rfl ?_ k1,k2,k3,k4⟩
     simp only [txStep,goOnT]
     have hcw:=com_first (m:=m) (c:=⟨ring,stamps,multi,start,0,reads,newChk ring start reads false,0,0⟩) rfl rfl
     generalize comStep m ⟨ring,stamps,multi,start,0,reads,newChk ring start reads false,0,0⟩=R at *
     split
     · unfold endT
       simp only
       split <;> simp [waits]
     · split
       · simp [waits]
       · exact hcw
 rw [if_neg h4] at hf ⊢
 by_cases h5:x.kind=5
 · rw [if_pos h5] at hf
   simp only [decide_eq_true_eq] at hf
   obtain ⟨hp,hco⟩:=hf
   subst hp
   refine ⟨[_],?_,rfl,hend _ x.code (by omega) rfl rfl rfl rfl rfl rfl rfl rfl rfl rfl,hm,rfl,rfl⟩
   unfold endT
   rw [if_neg (by omega)]
   exact .abort h5 hco rfl rfl rfl
 · rw [if_neg h5] at hf
   simp at hf
end
section
open Go.RowKit
def hashT (sh:Nat) (c:Int):Nat:=(un64 c * 11400714819323198485 % 18446744073709551616 / 2 ^ sh).toNat
def posT (N h e:Nat):Nat:=(h+e) % N
structure TabOk (sl:List Int) (cells:List Int) (sh:Nat):Prop where
 vals:∀ k,k < sl.length→sl.getD k 0 = -1∨(0≤sl.getD k 0∧sl.getD k 0 < cells.length)
 path:∀ (i:Nat) (c:Int),cells[i]?=some c→∃ d,d < sl.length∧sl.getD (posT sl.length (hashT sh c) d) 0=(i:Int)∧∀ e,e < d→sl.getD (posT sl.length (hashT sh c) e) 0≠-1
 count:sl.countP (fun v=>decide (v≠-1))=cells.length
 room:cells.length < sl.length
inductive Found (sl:List Int) (cells:List Int) (sh:Nat) (c:Int):Nat→Bool→Prop
 | yes {k:Nat} {i:Nat}:k < sl.length→sl.getD k 0=(i:Nat)→cells[i]?=some c→Found sl cells sh c k true
 | no {k}:k < sl.length→sl.getD k 0 = -1→c ∉ cells→(∃ d,d < sl.length∧k=posT sl.length (hashT sh c) d∧∀ e,e < d→sl.getD (posT sl.length (hashT sh c) e) 0≠-1)→Found sl cells sh c k false
theorem posT_lt {N h e:Nat} (hN:0 < N):posT N h e < N:=Nat.mod_lt _ hN
theorem posT_succ {N h e:Nat}:(posT N h e+1) % N=posT N h (e+1):=by
 unfold posT
 rw [Nat.mod_add_mod,Nat.add_assoc]
theorem countP_all {sl:List Int} (h:∀ k,k < sl.length→sl.getD k 0≠-1):sl.countP (fun v=>decide (v≠-1))=sl.length:=by
 rw [List.countP_eq_length]
 intro a ha
 obtain ⟨k,hk,rfl⟩:=List.getElem_of_mem ha
 have:=h k hk
 rw [List.getD_eq_getElem?_getD,List.getElem?_eq_getElem hk] at this
 simpa using this
theorem way_ends {sl cells:List Int} {sh:Nat} (h:TabOk sl cells sh) (h0:Nat) (hall:∀ e,e < sl.length→sl.getD (posT sl.length h0 e) 0≠-1):False:=by
 have hr:=h.room
 have hc:=countP_all (sl:=sl) (fun k hk=>by
   have hN:0 < sl.length:=by omega
   have hm:=Nat.mod_lt h0 hN
   obtain ⟨e,he,hek⟩:∃ e,e < sl.length∧posT sl.length h0 e=k:=by
     by_cases hle:h0 % sl.length≤k
     · refine ⟨k - h0 % sl.length,by omega,?_⟩
       unfold posT
       rw [Nat.add_mod,Nat.mod_eq_of_lt (show k - h0 % sl.length < sl.length by omega),Nat.mod_eq_of_lt (by omega)]
       omega
     · refine ⟨k+sl.length - h0 % sl.length,by omega,?_⟩
       unfold posT
       rw [Nat.add_mod,Nat.mod_eq_of_lt (show k+sl.length - h0 % sl.length < sl.length by omega)]
       rw [show h0 % sl.length+(k+sl.length - h0 % sl.length)=k+sl.length by omega,Nat.add_mod_right,Nat.mod_eq_of_lt hk]
   have:=hall e he
   rw [hek] at this
   exact this)
 rw [h.count] at hc
 omega
theorem way_finds {sl cells:List Int} {sh:Nat} (h:TabOk sl cells sh) {i:Nat} {c:Int} (hi:cells[i]?=some c) {n:Nat} (hn:n≤sl.length)
   (hno:∀ e,e < n→sl.getD (posT sl.length (hashT sh c) e) 0≠-1∧∀ j:Nat,sl.getD (posT sl.length (hashT sh c) e) 0=j→cells[j]?≠some c) (hend:sl.getD (posT sl.length (hashT sh c) n) 0 = -1∨n=sl.length):False:=by
 obtain ⟨d,hd,hv,hp⟩:=h.path i c hi
 rcases Nat.lt_or_ge d n with hdn | hdn
 · exact (hno d hdn).2 i hv hi
 · rcases hend with he | he
   · rcases Nat.lt_or_ge n d with h1 | h1
     · exact hp n h1 he
     · have:d=n:=by omega
       subst this
       rw [he] at hv
       omega
   · omega
theorem not_mem_of_way {sl cells:List Int} {sh:Nat} (h:TabOk sl cells sh) {c:Int} {n:Nat} (hn:n≤sl.length)
   (hno:∀ e,e < n→sl.getD (posT sl.length (hashT sh c) e) 0≠-1∧∀ j:Nat,sl.getD (posT sl.length (hashT sh c) e) 0=j→cells[j]?≠some c) (hend:sl.getD (posT sl.length (hashT sh c) n) 0 = -1):c ∉ cells:=fun hm=>by
 obtain ⟨i,hi⟩:=List.mem_iff_getElem?.1 hm
 exact way_finds h hi hn hno (.inl hend)
theorem getD_set_i (l:List Int) (i j:Nat) (v:Int) (hj:j < l.length):(l.set i v).getD j 0=if i=j then v else l.getD j 0:=by
 rw [List.getD_eq_getElem?_getD,List.getElem?_set]
 split
 · rename_i e
   subst e
   rw [if_pos hj]
   rfl
 · rw [List.getD_eq_getElem?_getD]
theorem countP_set_one:∀ (l:List Int) (k:Nat) (v:Int),k < l.length→l.getD k 0 = -1→v≠-1→(l.set k v).countP (fun v=>decide (v≠-1))=l.countP (fun v=>decide (v≠-1))+1
 | [],k,_,h,_,_=>by simp at h
 | x::l,0,v,_,h0,hv=>by
   simp at h0
   subst h0
   simp [hv]
 | x::l,k+1,v,h,h0,hv=>by
   have ih:=countP_set_one l k v (by simpa using h) (by simpa using h0) hv
   simp only [List.set_cons_succ,List.countP_cons]
   rw [ih]
   omega
theorem tab_add {sl cells:List Int} {sh:Nat} (h:TabOk sl cells sh) {c:Int} {k:Nat} (hf:Found sl cells sh c k false) (hr:cells.length+1 < sl.length):TabOk (sl.set k cells.length) (cells++[c]) sh:=by
 cases hf with
 | no hk hv hc hd =>
   obtain ⟨d,hdl,rfl,hdp⟩:=hd
   have hN:0 < sl.length:=by omega
   have hlen:(sl.set (posT sl.length (hashT sh c) d) (cells.length:Int)).length=sl.length:=by simp
   refine ⟨fun j hj=>?_,fun i c' hi=>?_,?_,by simp;omega⟩
   · rw [hlen] at hj
     rw [getD_set_i _ _ _ _ hj]
     split
     · right;simp;omega
     · rcases h.vals j hj with h1 | h1
       · exact .inl h1
       · refine .inr ⟨h1.1,?_⟩
         have h2:=h1.2
         rw [List.length_append,List.length_singleton]
         omega
   · rw [hlen]
     have hne:∀ e h0,sl.getD (posT sl.length h0 e) 0≠-1→(sl.set (posT sl.length (hashT sh c) d) (cells.length:Int)).getD (posT sl.length h0 e) 0=sl.getD (posT sl.length h0 e) 0:=fun e h0 hn=>by
       rw [getD_set_i _ _ _ _ (posT_lt hN)]
       rw [if_neg]
       intro e2
       rw [e2] at hv
       exact hn hv
     rw [List.getElem?_append] at hi
     split at hi
     · rename_i hil
       obtain ⟨d',h1,h2,h3⟩:=h.path i c' hi
       refine ⟨d',h1,?_,fun e he=>?_⟩
       · rw [hne d' _ (by rw [h2];omega)]
         exact h2
       · rw [hne e _ (h3 e he)]
         exact h3 e he
     · rename_i hil
       have hi0:i=cells.length:=by
         have:=(List.getElem?_eq_some_iff.1 hi).1
         simp at this
         omega
       subst hi0
       simp at hi
       subst hi
       refine ⟨d,hdl,?_,fun e he=>?_⟩
       · rw [getD_set_i _ _ _ _ (posT_lt hN),if_pos rfl]
       · rw [hne e _ (hdp e he)]
         exact hdp e he
   · rw [countP_set_one _ _ _ hk hv (by omega),h.count]
     simp
theorem tab_empty (N sh:Nat) (hN:0 < N):TabOk (List.replicate N (-1)) [] sh:=by
 refine ⟨fun k hk=>.inl ?_,fun i c hi=>by simp at hi,?_,by simpa using hN⟩
 · simp at hk
   rw [List.getD_eq_getElem?_getD,List.getElem?_replicate,if_pos hk]
   rfl
 · rw [List.countP_eq_zero.2]
   · rfl
   · intro a ha
     have:=List.eq_of_mem_replicate ha
     simp [this]
def widthT (most:Nat):Nat:=if most≤1 then 1 else if most≤2 then 2 else if most≤4 then 3 else if most≤8 then 4 else if most≤16 then 5 else 6
theorem widthT_room {most:Nat} (h:most≤24):most < 2 ^ widthT most:=by
 unfold widthT
 repeat' split
 all_goals omega
theorem widthT_le (most:Nat):1≤widthT most∧widthT most≤6:=by
 unfold widthT
 repeat' split
 all_goals omega
end
section
open Go.RowKit
theorem RowAt.read {w:World} {e:TypeId} {sz:Nat} {v:Value} {n:Nat} {xs:List Value} (h:RowAt w e sz v n xs) (hn:0 < n) :
   ∃ g cap,v=.slice (some ⟨g,0,none⟩) n cap∧n≤cap∧cap≤maxLen∧g < w.heap.size∧rowF v=[g]∧(∀ j u,xs[j]?=some u→w.cell? ⟨g,j,none⟩=some u)∧∀ j,w.frozen? ⟨g,j,none⟩=false:=by
 rcases h.2 with ⟨_,h0⟩ | ⟨g,cap,cur,rfl,hb,hg,hnc,hcm,hcs,ht⟩
 · omega
 · refine ⟨g,cap,rfl,hnc,hcm,heap_lt hg,rfl,fun j u hu=>?_,fun j=>frozen_of_row w g j _ _ hg⟩
   rw [cell_of_row w g j _ _ _ hg]
   rw [← ht] at hu
   rw [List.getElem?_take] at hu
   split at hu
   · simpa using hu
   · simp at hu
theorem RowAt.nil0 {w:World} {e:TypeId} {sz:Nat} {v:Value} {xs:List Value} (h:RowAt w e sz v 0 xs):xs=[]∧∃ a c,v=.slice a 0 c:=by
 refine ⟨List.eq_nil_of_length_eq_zero (by simpa using h.1),?_⟩
 rcases h.2 with ⟨rfl,_⟩ | ⟨g,cap,cur,rfl,_⟩
 · exact ⟨_,_,rfl⟩
 · exact ⟨_,_,rfl⟩
theorem RowAt.slice {w:World} {e:TypeId} {sz:Nat} {v:Value} {n:Nat} {xs:List Value} (h:RowAt w e sz v n xs):∃ a c,v=.slice a n c∧n≤c∧c≤maxLen:=by
 rcases h.2 with ⟨rfl,rfl⟩ | ⟨g,cap,cur,rfl,_,_,h1,h2,_⟩
 · exact ⟨_,_,rfl,Nat.le_refl _,Nat.zero_le _⟩
 · exact ⟨_,_,rfl,h1,h2⟩
def wcells (l:List (Int×Int)):List Value:=l.flatMap fun w=>[.int .i64 w.1,.int .i64 w.2]
theorem wcells_at:∀ (l:List (Int×Int)) (i:Nat),i < l.length→(wcells l)[2 * i]?=some (.int .i64 (l.getD i (0,0)).1)∧(wcells l)[2 * i+1]?=some (.int .i64 (l.getD i (0,0)).2)
 | [],i,h=>by simp at h
 | y::l,0,_=>⟨rfl,rfl⟩
 | y::l,i+1,h=>by
   have ih:=wcells_at l i (by simpa using h)
   have e:wcells (y::l)=.int .i64 y.1::.int .i64 y.2::wcells l:=rfl
   rw [e]
   constructor
   · rw [show 2 * (i+1)=2 * i+1+1 by omega]
     simpa using ih.1
   · rw [show 2 * (i+1)+1=2 * i+1+1+1 by omega]
     simpa using ih.2
theorem wcells_length (l:List (Int×Int)):(wcells l).length=l.length * 2:=by
 induction l with
 | nil=>rfl
 | cons y l ih =>
   have e:wcells (y::l)=.int .i64 y.1::.int .i64 y.2::wcells l:=rfl
   rw [e]
   simp [ih]
   omega
def cWr (v:Value) (l:List (Int×Int)):Comp:=cRow 218 2 v l.length (wcells l)
section
variable {w:World} {X:List Nat} {Cs:List Comp} {W W':World} {e:TypeId} {sz:Nat}
theorem Sep.nilRow (h:Sep w X Cs W) (e:TypeId) (sz:Nat):Sep w X (cRow e sz (.slice none 0 0) 0 []::Cs) W :=
 h.more (C3:=[cRow e sz (.slice none 0 0) 0 []]) ⟨Kept.refl _ _,fun c hc=>by rw [List.mem_singleton.1 hc];exact rowAt_nil _ _ _,by simp [feet,cRow,rowF],fun x hx=>by simp [feet,cRow,rowF] at hx⟩
theorem Sep.append {v:Value} {n:Nat} {xs:List Value} {g n' cap:Nat} {ys:List Value} {H:Nat} (h:Sep w X (cRow e sz v n xs::Cs) W) (hg:W.grownBy W' v.ownBlock) (ho:W'.ownsRow 0 e sz (.slice (some ⟨g,0,none⟩) n' cap) n' ys) (ha:v.ownBlock=some g∨g=H) (hH:W.heap.size≤H) :
   Sep w X (cRow e sz (.slice (some ⟨g,0,none⟩) n' cap) n' ys::Cs) W':=by
 have hr:RowAt W e sz v n xs:=h.h0
 refine h.call1 (C3:=[cRow e sz (.slice (some ⟨g,0,none⟩) n' cap) n' ys]) ⟨(Kept.refl _ _).grown hg (fun q hq=>.inl (rowF_own hq)),fun c hc=>by rw [List.mem_singleton.1 hc];exact ho,by simp [feet,cRow,rowF],fun x hx=>?_⟩
 simp [feet,cRow,rowF] at hx
 subst hx
 rcases ha with ha | ha
 · exact .inl (rowF_own ha)
 · exact .inr (by omega)
end
end
section
open Go.RowKit
variable {w0:World} {X:List Nat} {Cs:List Comp} {w:World} {t sb:Nat} {lv:Value} {most sh:Nat} {sl:List Int} {l:List (Int×Int)}
def tabO (most:Nat) (sb N:Nat) (lv:Value) (sh:Nat):Obj:=.cells #[.int .i64 most,.slice (some ⟨sb,0,none⟩) N N,lv,.int .u64 sh] 250 (0,0)
def slotO (sl:List Int):Obj:=.cells (intsA sl) 3 (0,0)
def tabC (t sb most:Nat) (lv:Value) (sh:Nat) (sl:List Int) (l:List (Int×Int)) (Cs:List Comp):List Comp:=cBlk t (tabO most sb sl.length lv sh)::cBlk sb (slotO sl)::cWr lv l::Cs
structure TabR (most sh:Nat) (sl:List Int) (l:List (Int×Int)):Prop where
 ok:TabOk sl (l.map (·.1)) sh
 wide:sh=64 - widthT most
 lens:sl.length=2 ^ widthT most
 mosts:1≤most∧most≤24
 few:l.length≤most
 cells:∀ y∈l,0≤y.1∧y.1 < 1024∧I64 y.2
theorem TabR.sizes {most sh:Nat} {sl:List Int} {l:List (Int×Int)} (h:TabR most sh sl l):58≤sh∧sh≤63∧2≤sl.length∧sl.length≤64∧∀ c,hashT sh c < sl.length:=by
 have hw:=widthT_le most
 have h1:=h.wide
 have h2:=h.lens
 rw [h2,h1]
 generalize widthT most=k at *
 refine ⟨by omega,by omega,?_,?_,fun c=>?_⟩
 · rcases (show k=1∨k=2∨k=3∨k=4∨k=5∨k=6 by omega) with rfl | rfl | rfl | rfl | rfl | rfl <;> decide
 · rcases (show k=1∨k=2∨k=3∨k=4∨k=5∨k=6 by omega) with rfl | rfl | rfl | rfl | rfl | rfl <;> decide
 · unfold hashT
   generalize un64 c * 11400714819323198485=y
   rcases (show k=1∨k=2∨k=3∨k=4∨k=5∨k=6 by omega) with rfl | rfl | rfl | rfl | rfl | rfl <;> simp only [Nat.reduceSub,Nat.reducePow,Int.reducePow] <;> omega
theorem mask_tab {most sh:Nat} {sl:List Int} {l:List (Int×Int)} (h:TabR most sh sl l) (k:Nat) (hk:k≤64):bits .and .i64 (k:Int) ((sl.length:Int) - 1)=((k % sl.length:Nat):Int):=by
 have hw:=widthT_le most
 have h2:=h.lens
 rw [h2]
 generalize widthT most=n at *
 have:=bits_mask .i64 62 (by decide) wraps_i62 n (by omega) (k:Int) (by omega) (by omega)
 rcases (show n=1∨n=2∨n=3∨n=4∨n=5∨n=6 by omega) with rfl | rfl | rfl | rfl | rfl | rfl
 all_goals
   simp only [Nat.reducePow,Int.reducePow] at this ⊢
   exact this.trans (by omega)
theorem wcell_at {w:World} {g:Nat} {l:List (Int×Int)} {i:Nat} {c:Int} (hcell:∀ j u,(wcells l)[j]?=some u→w.cell? ⟨g,j,none⟩=some u) (hi:(l.map (·.1))[i]?=some c):w.cell? ⟨g,i * 2,none⟩=some (.int .i64 c)∧∃ v,l[i]?=some (c,v)∧w.cell? ⟨g,i * 2+1,none⟩=some (.int .i64 v):=by
 rw [List.getElem?_map] at hi
 cases hl:l[i]? with
 | none=>rw [hl] at hi;simp at hi
 | some y =>
   rw [hl] at hi
   simp at hi
   subst hi
   have hil:=(List.getElem?_eq_some_iff.1 hl).1
   obtain ⟨h0,h1⟩:=wcells_at l i hil
   have hg:l.getD i (0,0)=y:=by rw [List.getD_eq_getElem?_getD,hl];rfl
   rw [hg] at h0 h1
   rw [Nat.mul_comm] at h0 h1
   exact ⟨hcell _ _ h0,y.2,rfl,hcell _ _ h1⟩
theorem find_tab (hS:Sep w0 X (tabC t sb most lv sh sl l Cs) w) (hr:TabR most sh sl l) (c:Int) (hc:0≤c∧c≤1024) :
   Calls Tryz.prog 170 #[ptr t,.int .i64 c] w (fun e w'=>∃ k b,e=.returned (.tuple #[.int .i64 (k:Nat),.bool b])∧Found sl (l.map (·.1)) sh c k b∧Sep w0 X (tabC t sb most lv sh sl l Cs) w'):=by
 obtain ⟨z1,z2,z3,z4,z5⟩:=hr.sizes
 have hz:=z5 c
 have HR:=kH hr
 have HM:=kH (fun k (hk:k≤64)=>mask_tab hr k hk)
 unfold tabC at hS
 have HS:=kH hS
 have c1:=hS.cell 1
 have c3:=hS.cell 3
 simp only [tabO,gA,gZ,gS] at c1 c3
 have hh:IntKind.u64.wrap (c * 11400714819323198485) / 2 ^ sh=(hashT sh c:Int):=by
   unfold hashT un64
   rw [IntKind.wrap_u64]
   have hp:(0:Int) < 2 ^ sh:=Int.pow_pos (by decide)
   have hn:0≤c % 18446744073709551616 * 11400714819323198485 % 18446744073709551616 / 2 ^ sh:=Int.ediv_nonneg (Int.emod_nonneg _ (by decide)) (by omega)
   rw [Int.toNat_of_nonneg hn,show c % 18446744073709551616=c by omega]
 generalize hN:sl.length=N at *
 generalize hhh:hashT sh c=h0 at *
 have HH:=kH hhh
 have HN:=kH hN
 clear hS hr z5 hhh hN
 unfold ptr
 go_enter Tryz.func170,Tryz.ntmps170
 go_wp2_with fail
 go_step3
 go_wp2_with fail
 clear hh
 go_step3
 go_wp2_with fail
 go_loopg [6,22] N (fun nn v6 v22 wr=>∃ e q:Nat,e≤N∧v22=.int .i64 e∧q=posT N h0 e∧v6=.int .i64 q∧nn+e=N∧(∀ e',e' < e→sl.getD (posT N h0 e') 0≠-1∧∀ j:Nat,sl.getD (posT N h0 e') 0=j→(l.map (·.1))[j]?≠some c) ∧
   Sep w0 X (cBlk t (tabO most sb N lv sh)::cBlk sb (slotO sl)::cWr lv l::Cs) wr)
 case atStart=>exact ⟨0,h0,Nat.zero_le _,rfl,by unfold posT;rw [Nat.add_zero,Nat.mod_eq_of_lt hz],rfl,by omega,(fun e' h=>absurd h (Nat.not_lt_zero _)),HS.out⟩
 case round =>
   obtain ⟨e,q,he,rfl,hq,rfl,hn,hno,S⟩:=hrel
   have HNN:=kH hn
   have HNO:=kH hno
   have HQ:=kH hq
   have HSR:=kH S
   have hqN:q < N:=by rw [hq];exact posT_lt (by omega)
   have hen:e < N:=by
     rcases Nat.lt_or_ge e N with h | h
     · exact h
     · exfalso
       refine way_ends HR.out.ok h0 (fun e' he'=>?_)
       rw [HN.out] at he' ⊢
       exact (hno e' (by omega)).1
   have b1:=S.cell 1
   have bq:=S.cell1 q
   simp only [gA,gZ,gS] at b1
   rw [intsA_at sl q (by rw [HN.out];exact hqN)] at bq
   have hqs:q < sl.length:=by rw [HN.out];exact hqN
   have hv:=HR.out.ok.vals q hqs
   have hmask:bits .and .i64 ((q:Int)+1) ((N:Int) - 1)=((posT N h0 (e+1):Nat):Int):=by
     have h:=HM.out (q+1) (by omega)
     rw [← posT_succ,← hq]
     exact h
   have HMK:=kH hmask
   have HQS:=kH hqs
   have hrow:RowAt wr _ _ _ _ _:=S.h2
   generalize hvv:sl.getD q 0=v at *
   have HVV:=kH hvv
   clear hn hno hq S hmask hqs hvv
   rcases hv with hv | ⟨hv0,hv1⟩
   · subst hv
     clear hrow
     go_wp2
     rw [Exit.noGoto_ret]
     go_ret2
     refine ⟨q,false,rfl,?_,by have:=HSR.out;rw [← HN.out] at this;exact this⟩
     have hno:=HNO.out
     have hq:=HQ.out
     rw [← HN.out,← HH.out] at hno hq
     rw [← HN.out] at he hen
     refine .no HQS.out HVV.out (not_mem_of_way HR.out.ok (n:=e) he hno (by rw [← hq];exact HVV.out)) ⟨e,hen,hq,fun e' h=>(hno e' h).1⟩
   · obtain ⟨j,rfl⟩:=Int.eq_ofNat_of_zero_le hv0
     have hjl:j < l.length:=by simpa using hv1
     obtain ⟨g,cap,rfl,hcap,hcm,hgl,-,hcell,-⟩:=hrow.read (by omega)
     have b2:=HSR.out.cell 2
     simp only [gA,gZ,gS] at b2
     obtain ⟨y,hy⟩:∃ y,(l.map (·.1))[j]?=some y:=⟨_,List.getElem?_eq_getElem (by simpa using hjl)⟩
     obtain ⟨d0,-⟩:=wcell_at hcell hy
     have HY:=kH hy
     have hll:(j:Int) < (l.length:Int):=by omega
     unfold maxLen at hcm
     have hlc:l.length≤24:=by have:=HR.out.few;have:=HR.out.mosts;omega
     generalize hln:l.length=ln at *
     have HLN:=kH hln
     clear hv0 hv1 hrow hcell hy hln
     by_cases hyc:y=c
     · subst hyc
       go_wp2
       rw [Exit.noGoto_ret]
       go_ret2
       refine ⟨q,true,rfl,.yes HQS.out HVV.out HY.out,by have:=HSR.out;rw [← HN.out,← HLN.out] at this;exact this⟩
     · have hyc':(y == c)=false:=by simpa using hyc
       have HYC:=kH hyc
       have hmk:=HMK.out
       clear hyc
       go_wp2
       go_roundg (N - (e+1))
       case measure=>have:=HNN.out;omega
       case rel =>
         refine ⟨e+1,posT N h0 (e+1),by omega,by go_num,rfl,rfl,by have:=HNN.out;omega,fun e' he'=>?_,HSR.out⟩
         rcases Nat.lt_or_ge e' e with h | h
         · exact HNO.out e' h
         · have:e'=e:=by omega
           subst this
           rw [← HQ.out,HVV.out]
           refine ⟨by omega,fun j' hj'=>?_⟩
           have:j'=j:=by omega
           subst this
           rw [HY.out]
           intro h
           injection h with h
           exact HYC.out h
end
section
open Go.RowKit
inductive Quiet (m:MemD):Nat→TxD→TxD→Prop
 | refl (t:TxD):Quiet m 0 t t
 | step {n:Nat} {t t1 t2:TxD} {x:WantD} {v:Int}:Quiet m n t t1→t1.way=.no→fitsT m t1 x=true→(x.kind=2∨x.kind=3)→I64 x.value→txDo m t1 x=(⟨3,0,v,false⟩,t2,m)→Quiet m (n+1) t t2
structure JobD where
 tx:TxD
 begun:Bool
 fin:Bool
 old:List EvD
def JobD.told (j:JobD):List EvD:=j.old++j.tx.told
inductive JNext
 | on (j:JobD)
 | over
def comeA (a:AnsD) (fin:Bool):AnsD:=⟨if a.kind=3∧fin=false then 2 else a.kind,a.err,0,a.access⟩
inductive Comes (c:CfgD) (old:List EvD) (t:TxD) (fin:Bool) (a:AnsD):JNext→Prop
 | on:a.kind≠4→¬ (a.kind=3∧fin=true)→Comes c old t fin a (.on ⟨t,true,fin,old⟩)
 | done:a.kind=3→fin=true→Comes c old t fin a .over
 | fail:a.kind=4→Comes c old t fin a .over
 | again:a.kind=4→Comes c old t fin a (.on ⟨newTx c.ring c.writes c.stamps c.multi,false,false,old++t.told⟩)
def most:Nat:=200
inductive JStep (c:CfgD) (m:MemD) (j:JobD):AnsD→List EvD→MemD→JNext→Prop
 | begin {a new t' m' nx}:j.begun=false→txDo m j.tx ⟨1,0,0,0⟩=(a,t',m')→t'.told=j.tx.told++new→Comes c j.old t' false a nx→JStep c m j (comeA a false) new m' nx
 | go {a new t' m' nx}:j.begun=true→j.tx.way≠.no→txStep m j.tx=(a,t',m')→t'.told=j.tx.told++new→Comes c j.old t' j.fin a nx→JStep c m j (comeA a j.fin) new m' nx
 | quiet {n t' new fin}:j.begun=true→j.tx.way=.no→Quiet m n j.tx t'→n≤most→t'.told=j.tx.told++new→JStep c m j ⟨2,0,0,false⟩ new m (.on ⟨t',true,fin,j.old⟩)
 | want {n t1 x a t' m' new nx}:j.begun=true→j.tx.way=.no→Quiet m n j.tx t1→n≤most→fitsT m t1 x=true→x.kind≠1→I64 x.value→txDo m t1 x=(a,t',m')→t'.told=j.tx.told++new→Comes c j.old t' (decide (x.kind=4)) a nx →
     JStep c m j (comeA a (decide (x.kind=4))) new m' nx
structure JobOk (c:CfgD) (j:JobD) (m:MemD):Prop where
 tx:TxOk c j.tx m
 fresh:j.begun=false→j.tx.way=.no∧j.tx.phase=0
 runs:j.begun=true→j.tx.phase≠0
 fin:j.begun=true→(j.tx.phase=4∨j.tx.phase=5→j.fin=true)∧(j.tx.phase=1∨j.tx.phase=3→j.fin=false)
 old:∀ e∈j.old,EvOk e
def NextOk (c:CfgD) (m:MemD):JNext→Prop
 | .on j=>JobOk c j m
 | .over=>True
theorem jobOk_new {c:CfgD} (hc:CfgOk c) {m:MemD} (hm:m.ring=c.ring) (fin:Bool) {old:List EvD} (ho:∀ e∈old,EvOk e):JobOk c ⟨newTx c.ring c.writes c.stamps c.multi,false,fin,old⟩ m :=
 ⟨txOk_new hc hm,fun _=>⟨rfl,rfl⟩,fun h=>by simp at h,fun h=>by simp at h,ho⟩
theorem JobOk.mem {c:CfgD} {j:JobD} {m m':MemD} (h:JobOk c j m) (hr:m'.ring=m.ring) (hc:m'.cells.length=m.cells.length):JobOk c j m':=⟨h.tx.mem hr hc,h.fresh,h.runs,h.fin,h.old⟩
structure TellsOk (a:AnsD) (new:List EvD):Prop where
 each:∀ e∈new,e.kind=5∨e.kind=6→e.err=a.err∧(e.err=0↔a.kind=3)
 some:(∃ e∈new,e.kind=5∨e.kind=6)↔(a.kind=3∨a.kind=4)
 fail:a.kind=4↔a.err≠0
 still:(a.kind=0∨a.kind=1)→new=[]∨∃ e l,new=e::l∧e.kind=7
theorem TellsOk.cons {a:AnsD} {new:List EvD} (h:TellsOk a new) {e:EvD} (he:e.kind≠5∧e.kind≠6) (h7:(a.kind=0∨a.kind=1)→e.kind=7):TellsOk a (e::new):=by
 refine ⟨fun x hx hk=>?_,?_,h.fail,fun hk=>.inr ⟨e,new,rfl,h7 hk⟩⟩
 · rcases List.mem_cons.1 hx with rfl | hx
   · omega
   · exact h.each x hx hk
 · rw [← h.some]
   constructor
   · rintro ⟨x,hx,hk⟩
     rcases List.mem_cons.1 hx with rfl | hx
     · omega
     · exact ⟨x,hx,hk⟩
   · rintro ⟨x,hx,hk⟩
     exact ⟨x,List.mem_cons_of_mem _ hx,hk⟩
theorem TellsOk.ahead {a:AnsD}:∀ {pre new:List EvD},TellsOk a new→(∀ e∈pre,e.kind≠5∧e.kind≠6)→¬ (a.kind=0∨a.kind=1)→TellsOk a (pre++new)
 | [],_,h,_,_=>h
 | e::_,_,h,hp,hk=>(TellsOk.ahead h (fun x hx=>hp x (List.mem_cons_of_mem _ hx)) hk).cons (hp e List.mem_cons_self) (fun h'=>absurd h' hk)
theorem tells_none {a:AnsD} (h3:a.kind≠3) (h4:a.kind≠4) (he:a.err=0):TellsOk a [] :=
 ⟨fun _ hx=>(nomatch hx),⟨fun ⟨_,hx,_⟩=>(nomatch hx),fun h=>by omega⟩,⟨fun h=>absurd h h4,fun h=>absurd he h⟩,fun _=>.inl rfl⟩
theorem tells_one {a:AnsD} {e:EvD} (hk:e.kind=5∨e.kind=6) (he:e.err=a.err) (h3:e.err=0↔a.kind=3) (h4:a.kind=4↔a.err≠0):TellsOk a [e] :=
 ⟨fun x hx _=>by rw [List.mem_singleton.1 hx];exact ⟨he,h3⟩,⟨fun _=>by
   by_cases h0:e.err=0
   · exact .inl (h3.1 h0)
   · exact .inr (h4.2 (by omega)),fun _=>⟨e,List.mem_singleton.2 rfl,hk⟩⟩,h4,fun h=>by
     exfalso
     by_cases h0:e.err=0
     · have:=h3.1 h0;omega
     · have:=h4.2 (by omega);omega⟩
theorem tells_live {a:AnsD} {e:EvD} (hk:e.kind≠5∧e.kind≠6) (h2:a.kind=2) (he:a.err=0):TellsOk a [e] :=
 (tells_none (a:=a) (by omega) (by omega) he).cons hk (fun h=>by omega)
theorem tells_out {t:TxD} {a:AnsD} {new:List EvD} {t':TxD} {fin:Bool} (h:TxOut t a new t') (hf4:t.phase=4∨t.phase=5→fin=true) (hf1:t.phase=1∨t.phase=3→fin=false):TellsOk (comeA a fin) new:=by
 cases h with
 | on k1 k2 k3 =>
   rcases k1 with rfl | rfl
   · exact tells_none (by simp [comeA,moved]) (by simp [comeA,moved]) rfl
   · exact tells_none (by simp [comeA,waits]) (by simp [comeA,waits]) rfl
 | live k1 k2 k3 k4 =>
   rw [hf1 k1]
   exact tells_live (by omega) (by simp [comeA,doneA]) rfl
 | pub k1 k2 k3=>exact tells_live (by omega) (by simp [comeA,moved]) rfl
 | done k1 k2 k3 k4 =>
   rw [hf4 (.inr k1)]
   exact tells_one (.inl k2) (by rw [k3];rfl) (by rw [k3];simp [comeA,doneA]) (by simp [comeA,doneA])
 | fail k1 k2 k3 k4 =>
   exact tells_one (.inr k2) (by rw [k3];rfl) (by rw [k3];simp [comeA,failA];omega) (by simp [comeA,failA];omega)
theorem quiet_told {c:CfgD} {m:MemD} (hc:CfgOk c) (hm:MemOk m) {n:Nat} {t t':TxD} (h:Quiet m n t t'):TxOk c t m→t.way=.no→t.phase≠0→∃ new,t'.told=t.told++new∧(∀ e∈new,e.kind=2∨e.kind=3)∧new.length=n∧TxOk c t' m∧t'.way=.no∧t'.phase≠0:=by
 induction h with
 | refl t=>exact fun h1 h2 h3=>⟨[],by simp,fun _ hx=>(nomatch hx),rfl,h1,h2,h3⟩
 | @step n t t1 t2 x v hq h2 h3 h4 h5 h6 ih =>
   intro hok hw hp
   obtain ⟨new,k1,k2,k3,k4,k5,k6⟩:=ih hok hw hp
   obtain ⟨add,d1,d2,d3,d4⟩:=tx_do hc hm k4 k5 h3 h5
   rw [h6] at d1 d2 d3
   simp only at d1 d2 d3
   have hone:∃ e,add=[e]∧(e.kind=2∨e.kind=3)∧t2.way=.no∧t2.phase≠0:=by
     cases d1 with
     | opened e1=>omega
     | own e1 e2 e3 e4 e5=>exact ⟨_,rfl,.inl e2,e5,by omega⟩
     | wrote e1 e2 e3 e4=>exact ⟨_,rfl,.inr e2,e4,by omega⟩
     | empty e1=>omega
     | commit e1=>omega
   obtain ⟨e,rfl,he,hw2,hp2⟩:=hone
   refine ⟨new++[e],by rw [d2,k1,List.append_assoc],fun y hy=>?_,by simp [k3],d3,hw2,hp2⟩
   rcases List.mem_append.1 hy with hy | hy
   · exact k2 y hy
   · rw [List.mem_singleton.1 hy];exact he
theorem come_ok {c:CfgD} (hc:CfgOk c) {m:MemD} {old:List EvD} {t:TxD} {fin:Bool} {a:AnsD} {nx:JNext} (h:Comes c old t fin a nx) (ht:TxOk c t m) (ho:∀ e∈old,EvOk e)
   (hp:a.kind≠4→¬ (a.kind=3∧fin=true)→t.phase≠0∧(t.phase=4∨t.phase=5→fin=true)∧(t.phase=1∨t.phase=3→fin=false)):NextOk c m nx:=by
 cases h with
 | on h1 h2 =>
   obtain ⟨q1,q2,q3⟩:=hp h1 h2
   exact ⟨ht,fun h=>by simp at h,fun _=>q1,fun _=>⟨q2,q3⟩,ho⟩
 | done h1=>trivial
 | fail h1=>trivial
 | again h1=>exact jobOk_new hc ht.mring _ (fun e he=>(List.mem_append.1 he).elim (ho e) (ht.told e))
theorem job_step {c:CfgD} {m:MemD} {j:JobD} {a:AnsD} {new:List EvD} {m':MemD} {nx:JNext} (hc:CfgOk c) (hm:MemOk m) (hj:JobOk c j m) (h:JStep c m j a new m' nx) :
   TellsOk a new∧NextOk c m' nx∧MemOk m'∧m'.ring=m.ring∧m'.cells.length=m.cells.length:=by
 cases h with
 | @begin a new t' m' nx hb hd ht hcm =>
   obtain ⟨hw,hp⟩:=hj.fresh hb
   have hf:fitsT m j.tx ⟨1,0,0,0⟩=true:=by
     unfold fitsT
     simp [hp,hj.tx.mring.trans hj.tx.cfg.1.symm]
   obtain ⟨new',d1,d2,d3,d4⟩:=tx_do hc hm hj.tx hw hf i64_0
   rw [hd] at d1 d2 d3 d4
   simp only at d1 d2 d3 d4
   obtain rfl:new=new':=List.append_cancel_left (ht.symm.trans d2)
   cases d1 with
   | own e1=>simp at e1
   | read e1=>simp at e1
   | wrote e1=>simp at e1
   | big e1=>simp at e1
   | empty e1=>simp at e1
   | commit e1=>simp at e1
   | abort e1=>simp at e1
   | @opened e _ new t0 _ e1 e2 e3 e4 =>
     refine ⟨(tells_out (fin:=false) e4 (by omega) (fun _=>rfl)).cons (by omega) (fun _=>e2),come_ok hc hcm d3 hj.old (fun h1 h2=>?_),d4⟩
     cases e4 with
     | on k1 k2 k3=>exact ⟨by omega,by omega,fun _=>rfl⟩
     | live k1 k2 k3 k4=>exact ⟨by omega,by omega,fun _=>rfl⟩
     | pub k1=>omega
     | done k1=>omega
     | fail k1=>simp [failA] at h1
 | @go a new t' m' nx hb hw hd ht hcm =>
   obtain ⟨new',d1,d2,d3,d4⟩:=tx_step hc hm hj.tx hw
   rw [hd] at d1 d2 d3 d4
   simp only at d1 d2 d3 d4
   obtain rfl:new=new':=List.append_cancel_left (ht.symm.trans d2)
   obtain ⟨f1,f2⟩:=hj.fin hb
   have hr:=hj.runs hb
   refine ⟨tells_out d1 f1 f2,come_ok hc hcm d3 hj.old (fun h1 h2=>?_),d4⟩
   cases d1 with
   | on k1 k2 k3=>rw [k2];exact ⟨hr,f1,f2⟩
   | live k1 k2 k3 k4=>exact ⟨by omega,by omega,by omega⟩
   | pub k1 k2 k3=>exact ⟨by omega,fun _=>f1 (.inl k1),by omega⟩
   | done k1 k2 k3 k4=>exact absurd ⟨rfl,f1 (.inr k1)⟩ h2
   | fail k1=>simp [failA] at h1
 | @quiet n t' new fin hb hw hq hn ht =>
   obtain ⟨add,k1,k2,k3,k4,k5,k6⟩:=quiet_told hc hm hq hj.tx hw (hj.runs hb)
   obtain rfl:new=add:=List.append_cancel_left (ht.symm.trans k1)
   have hp:t'.phase=2:=by
     have:=k4.way
     unfold WayOk at this
     rw [k5] at this
     simp only at this
     omega
   refine ⟨?_,⟨k4,fun h=>by simp at h,fun _=>k6,fun _=>by simp only;exact ⟨by omega,by omega⟩,hj.old⟩,hm,rfl,rfl⟩
   have:=TellsOk.ahead (pre:=new) (tells_none (a:=⟨2,0,0,false⟩) (by simp) (by simp) rfl) (fun e he=>by have:=k2 e he;omega) (by simp)
   simpa using this
 | @want n t1 x a t' m' new nx hb hw hq hn hf hx1 hv hd ht hcm =>
   obtain ⟨add,k1,k2,k3,k4,k5,k6⟩:=quiet_told hc hm hq hj.tx hw (hj.runs hb)
   obtain ⟨new',d1,d2,d3,d4⟩:=tx_do hc hm k4 k5 hf hv
   rw [hd] at d1 d2 d3 d4
   simp only at d1 d2 d3 d4
   obtain rfl:new=add++new':=List.append_cancel_left (ht.symm.trans (d2.trans (by rw [k1,List.append_assoc])))
   have hadd:∀ e∈add,e.kind≠5∧e.kind≠6:=fun e he=>by have:=k2 e he;omega
   cases d1 with
   | opened e1=>exact absurd e1 hx1
   | own e1 e2 e3 e4 e5 =>
     have e6:decide (x.kind=4)=false:=by simp;omega
     rw [e6] at hcm ⊢
     exact ⟨(tells_live (by omega) (by simp [comeA]) rfl).ahead hadd (by simp [comeA]),come_ok hc hcm d3 hj.old (fun _ _=>⟨by omega,by omega,by omega⟩),d4⟩
   | read e1 e2 e3 =>
     have e6:decide (x.kind=4)=false:=by simp;omega
     rw [e6] at hcm ⊢
     exact ⟨(tells_none (by simp [comeA,moved]) (by simp [comeA,moved]) rfl).ahead hadd (by simp [comeA,moved]),come_ok hc hcm d3 hj.old (fun _ _=>⟨by omega,by omega,fun _=>rfl⟩),d4⟩
   | wrote e1 e2 e3 e4 =>
     have e6:decide (x.kind=4)=false:=by simp;omega
     rw [e6] at hcm ⊢
     exact ⟨(tells_live (by omega) (by simp [comeA]) rfl).ahead hadd (by simp [comeA]),come_ok hc hcm d3 hj.old (fun _ _=>⟨by omega,by omega,by omega⟩),d4⟩
   | big e1 e2 e3 e4 =>
     exact ⟨(tells_one (.inr e2) (by rw [e3];rfl) (by rw [e3];simp [comeA]) (by simp [comeA])).ahead hadd (by simp [comeA]),come_ok hc hcm d3 hj.old (fun h1 _=>absurd rfl h1),d4⟩
   | empty e1 e2 e3 e4 =>
     have e6:decide (x.kind=4)=true:=by simp [e1]
     rw [e6] at hcm ⊢
     exact ⟨(tells_one (.inr e2) (by rw [e3];rfl) (by rw [e3];simp [comeA]) (by simp [comeA])).ahead hadd (by simp [comeA]),come_ok hc hcm d3 hj.old (fun _ h2=>absurd ⟨rfl,rfl⟩ h2),d4⟩
   | @commit _ _ t0 _ e1 e2 e3 e4 =>
     have e6:decide (x.kind=4)=true:=by simp [e1]
     rw [e6] at hcm ⊢
     refine ⟨(tells_out e4 (fun _=>rfl) (by omega)).ahead hadd ?_,come_ok hc hcm d3 hj.old (fun h1 h2=>?_),d4⟩
     · cases e4 with
       | on k1 k2 k3 =>
         rcases k1 with rfl | rfl
         · simp [comeA,moved]
         · exact absurd rfl e3
       | live k1=>omega
       | pub k1 k2 k3=>simp [comeA,moved]
       | done k1=>omega
       | fail k1=>simp [comeA,failA]
     · cases e4 with
       | on k1 k2 k3=>exact ⟨by omega,fun _=>rfl,by omega⟩
       | live k1=>omega
       | pub k1 k2 k3=>exact ⟨by omega,fun _=>rfl,by omega⟩
       | done k1=>omega
       | fail k1=>simp [failA] at h1
   | abort e1 e2 e3 e4 e5 =>
     have hne:x.code≠0:=by omega
     exact ⟨(tells_one (.inr e3) (by rw [e4];rfl) (by rw [e4];simp [comeA];omega) (by simp [comeA];omega)).ahead hadd (by simp [comeA]),come_ok hc hcm d3 hj.old (fun h1 _=>absurd rfl h1),d4⟩
end
section
open Go.RowKit
theorem way_no {t:TxD} {m:MemD} (h:WayOk t m) (hp:t.phase=0∨t.phase=2):t.way=.no:=by
 unfold WayOk at h
 split at h
 · assumption
 all_goals (exfalso;omega)
structure AnsFacts (a:AnsD) (t t':TxD):Prop where
 val:I64 a.value
 way:a.kind=3→t'.way=.no
 told:a.kind=4→0 < t'.told.length
 len:t'.told.length≤t.told.length+2
theorem out_facts {t t0 t':TxD} {a:AnsD} {new:List EvD} {m':MemD} (h:TxOut t a new t') (hw:WayOk t' m') (ht:t'.told=t0.told++new):AnsFacts a t0 t':=by
 cases h with
 | on h1 h2 h3 =>
   rcases h1 with rfl | rfl
   · exact ⟨i64_0,fun h=>by simp [moved] at h,fun h=>by simp [moved] at h,by rw [ht];simp⟩
   · exact ⟨i64_0,fun h=>by simp [waits] at h,fun h=>by simp [waits] at h,by rw [ht];simp⟩
 | live h1 h2 h3 h4=>exact ⟨h2,fun _=>way_no hw (.inr h4),fun h=>by simp [doneA] at h,by rw [ht];simp⟩
 | pub h1 h2 h3=>exact ⟨i64_0,fun h=>by simp [moved] at h,fun h=>by simp [moved] at h,by rw [ht];simp⟩
 | done h1 h2 h3 h4=>exact ⟨i64_0,fun _=>way_no hw (.inl h4),fun h=>by simp [doneA] at h,by rw [ht];simp⟩
 | fail h1 h2 h3 h4=>exact ⟨i64_0,fun h=>by simp [failA] at h,fun _=>by rw [ht];simp,by rw [ht];simp⟩
theorem out_len {t t':TxD} {a:AnsD} {new:List EvD} (h:TxOut t a new t'):new.length≤1:=by cases h <;> simp
theorem step_facts {c:CfgD} {t:TxD} {m:MemD} (hc:CfgOk c) (hm:MemOk m) (h:TxOk c t m) (hw:t.way≠.no):AnsFacts (txStep m t).1 t (txStep m t).2.1:=by
 obtain ⟨new,h1,h2,h3,-⟩:=tx_step hc hm h hw
 exact out_facts h1 h3.way h2
theorem do_facts {c:CfgD} {t:TxD} {m:MemD} {x:WantD} (hc:CfgOk c) (hm:MemOk m) (h:TxOk c t m) (hw:t.way=.no) (hf:fitsT m t x=true) (hx:I64 x.value):AnsFacts (txDo m t x).1 t (txDo m t x).2.1:=by
 obtain ⟨new,h1,h2,h3,-⟩:=tx_do hc hm h hw hf hx
 generalize txDo m t x=R at *
 obtain ⟨a,t',m'⟩:=R
 simp only at h1 h2 h3 ⊢
 cases h1 with
 | @opened e _ new0 t0 _ e1 e2 e3 e4 =>
   have ht:t'.told=(tellT t e).told++new0:=by rw [h2];simp [tellT]
   have h4:=out_facts (t0:=tellT t e) e4 h3.way ht
   exact ⟨h4.val,h4.way,h4.told,by rw [h2];have:=out_len e4;simp;omega⟩
 | own e1 e2 e3 e4 e5=>exact ⟨e3,fun _=>e5,fun h=>by simp at h,by rw [h2];simp⟩
 | read e1 e2 e3=>exact ⟨i64_0,fun h=>by simp [moved] at h,fun h=>by simp [moved] at h,by rw [h2];simp⟩
 | wrote e1 e2 e3 e4=>exact ⟨i64_0,fun _=>e4,fun h=>by simp at h,by rw [h2];simp⟩
 | big e1 e2 e3 e4=>exact ⟨i64_0,fun h=>by simp at h,fun _=>by rw [h2];simp,by rw [h2];simp⟩
 | empty e1 e2 e3 e4=>exact ⟨i64_0,fun _=>way_no h3.way (.inl e4),fun h=>by simp at h,by rw [h2];simp⟩
 | commit e1 e2 e3 e4=>exact out_facts e4 h3.way h2
 | abort e1 e2 e3 e4 e5=>exact ⟨i64_0,fun h=>by simp at h,fun _=>by rw [h2];simp,by rw [h2];simp⟩
end
section
open Go.RowKit
theorem do_mem {m:MemD} {t:TxD} {x:WantD} (hk:x.kind=2∨x.kind=3):(txDo m t x).2.2=m:=by
 unfold txDo
 split
 · rfl
 · rw [if_neg (by omega)]
   split
   · split
     · rfl
     · rfl
   · split
     · split <;> rfl
     · omega
theorem want_quiet {c:CfgD} {t:TxD} {m:MemD} {x:WantD} (hc:CfgOk c) (hm:MemOk m) (h:TxOk c t m) (hw:t.way=.no) (hf:fitsT m t x=true) (hx:I64 x.value) (hk:x.kind=2∨x.kind=3)
   (h3:(txDo m t x).1.kind=3):∃ v,I64 v∧txDo m t x=(⟨3,0,v,false⟩,(txDo m t x).2.1,m)∧(txDo m t x).2.1.way=.no∧(txDo m t x).2.1.phase=2∧(txDo m t x).2.1.told.length=t.told.length+1∧TxOk c (txDo m t x).2.1 m:=by
 obtain ⟨new,h1,h2,h4,-⟩:=tx_do hc hm h hw hf hx
 have hmem:=do_mem (m:=m) (t:=t) hk
 generalize txDo m t x=R at *
 obtain ⟨a,t',m'⟩:=R
 simp only at h1 h2 h3 h4 hmem ⊢
 subst hmem
 cases h1 with
 | opened e1=>omega
 | @own v e _ e1 e2 e3 e4 e5=>exact ⟨v,e3,rfl,e5,e4,by rw [h2];simp,h4⟩
 | read e1 e2 e3=>simp [moved] at h3
 | wrote e1 e2 e3 e4=>exact ⟨0,i64_0,rfl,e4,e3,by rw [h2];simp,h4⟩
 | big e1 e2 e3 e4=>simp at h3
 | empty e1=>omega
 | commit e1=>omega
 | abort e1=>omega
theorem fits_cell {c:CfgD} {t:TxD} {m:MemD} {x:WantD} (h:TxOk c t m) (hp:t.phase=2) (hk:x.kind=2∨x.kind=3) (h0:0≤x.cell) (h1:x.cell < m.cells.length):fitsT m t x=true:=by
 unfold fitsT
 have hr:m.ring=t.ring:=h.mring.trans h.cfg.1.symm
 rcases hk with hk | hk <;> simp [hr,hk,hp,h0,h1]
end
namespace Plc
open Go.RowKit Go.ChangeShapes Go.WideShapes Go.Deep Go.ChangeAt
section
variable {H:Type} {enc:TypeId×Value→H} {P:Program} {w:World}
def Fits (P:Program) (t:TypeId) (d:DataW H):Prop:=∀ n∈d.weights P t,n≤reachBytes
theorem fits_each {ts:List TypeId} {ds:List (DataW H)} (h:(DataW.weightsEach P ts ds).all (·≤reachBytes)=true) {j:Nat} {t:TypeId} {d:DataW H} (ht:ts[j]?=some t) (hd:ds[j]?=some d):Fits P t d :=
 fun n hn=>by simpa using List.all_eq_true.1 h n (DataW.weights_mem_each ht hd n hn)
theorem fits_struct {t:TypeId} {fs:Array Field} {parts:List (DataW H)} (hs:P.underlying t=some (.struct fs)) (h:Fits P t (.agg parts)) {j:Nat} {u:TypeId} {d:DataW H}
   (ht:(fs.toList.map (·.type))[j]?=some u) (hd:parts[j]?=some d):Fits P u d:=by
 intro n hn
 apply h n
 simp only [DataW.weights,hs]
 exact DataW.weights_mem_each ht hd n hn
theorem fits_len {t e:TypeId} {elems spare:List (DataW H)} (hs:P.underlying t=some (.slice e)) (h:Fits P t (.slice elems spare)):(elems.length+spare.length) * P.bytesOf e≤reachBytes :=
 h _ (by simp [DataW.weights,hs])
theorem exists_list {α:Type} (d:α) (Q:Nat→α→Prop):∀ n:Nat,(∀ i,i < n→∃ x,Q i x)→∃ l:List α,l.length=n∧∀ i,i < n→Q i (l.getD i d)
 | 0,_=>⟨[],rfl,fun i hi=>by omega⟩
 | n+1,h=>by
   obtain ⟨l,hl,hq⟩:=exists_list d Q n (fun i hi=>h i (by omega))
   obtain ⟨x,hx⟩:=h n (by omega)
   refine ⟨l++[x],by simp [hl],fun i hi=>?_⟩
   by_cases e:i=n
   · subst e
     simpa [List.getD_eq_getElem?_getD,← hl] using hx
   · have:=hq i (by omega)
     rw [List.getD_eq_getElem?_getD,List.getElem?_append_left (by omega)]
     simpa [List.getD_eq_getElem?_getD] using this
end
theorem own:ownKnob Tryz.prog.godebug=none:=by kernel_rfl
theorem laidOut:laidOutB Tryz.prog=true:=by kernel_rfl
end Plc
section
open Go.RowKit Go.ChangeShapes Go.WideShapes Go.Deep Go.ChangeAt
def jobC (l:List (Int×List Int×Value)):List Value:=l.flatMap fun j=>[.int .i64 j.1,j.2.2]
def ReadsV (w:World) (B:Nat) (v:Value) (n sz:Nat) (vs:List Value):Prop :=
 vs.length=n * sz∧∃ (a:Option Addr) (c:Nat),v=.slice a n c∧n≤c∧c≤maxLen∧(n=0∨∃ b off,a=some ⟨b,off,none⟩∧b < B∧∀ j u,vs[j]?=some u→w.cell? ⟨b,off+j,none⟩=some u)
theorem ReadsV.below {w w':World} {B n sz:Nat} {v:Value} {vs:List Value} (h:ReadsV w B v n sz vs) (hb:Below B w w'):ReadsV w' B v n sz vs:=by
 obtain ⟨h1,a,c,h2,h3,h4,h5⟩:=h
 refine ⟨h1,a,c,h2,h3,h4,?_⟩
 rcases h5 with h5 | ⟨b,off,e,hB,hc⟩
 · exact .inl h5
 · exact .inr ⟨b,off,e,hB,fun j u hu=>(hb.cell (p:=⟨b,off+j,none⟩) hB).trans (hc j u hu)⟩
theorem ReadsV.up {w:World} {B B' n sz:Nat} {v:Value} {vs:List Value} (h:ReadsV w B v n sz vs) (hb:B≤B'):ReadsV w B' v n sz vs:=by
 obtain ⟨h1,a,c,h2,h3,h4,h5⟩:=h
 exact ⟨h1,a,c,h2,h3,h4,h5.imp id fun ⟨b,off,e,hB,hc⟩=>⟨b,off,e,Nat.lt_of_lt_of_le hB hb,hc⟩⟩
section
variable {H:Type} {enc:TypeId×Value→H} {P:Program} {w:World}
theorem weights_mem_all' {e:TypeId}:∀ {l:List (DataW H)} {i:Nat} {d:DataW H},l[i]?=some d→∀ n∈d.weights P e,n∈DataW.weightsAll P e l
 | [],_,_,h,_,_=>by simp at h
 | x::l,0,d,h,n,hn=>by
   simp at h
   subst h
   simp only [DataW.weightsAll,List.mem_append]
   exact .inl hn
 | x::l,i+1,d,h,n,hn=>by
   simp only [DataW.weightsAll,List.mem_append]
   exact .inr (weights_mem_all' (by simpa using h) n hn)
theorem fits_el {t e:TypeId} {elems spare:List (DataW H)} (hs:P.underlying t=some (.slice e)) (h:Plc.Fits P t (.slice elems spare)) {i:Nat} {d:DataW H} (hd:elems[i]?=some d):Plc.Fits P e d:=by
 intro n hn
 apply h n
 simp only [DataW.weights,hs,List.mem_cons,List.mem_append]
 exact .inr (.inl (weights_mem_all' hd n hn))
theorem flat_cell {α:Type} {en:α→List Value} {sz:Nat} (hen:∀ x,(en x).length=sz):∀ (l:List α) (j:Nat) (u:Value),(l.flatMap en)[j]?=some u→∃ i q x,j=i * sz+q∧i < l.length∧q < sz∧l[i]?=some x∧(en x)[q]?=some u
 | [],j,u,h=>by simp at h
 | x::l,j,u,h=>by
   rw [List.flatMap_cons] at h
   by_cases hj:j < sz
   · rw [List.getElem?_append_left (by rw [hen];exact hj)] at h
     exact ⟨0,j,x,by simp,by simp,hj,rfl,h⟩
   · rw [List.getElem?_append_right (by rw [hen];omega),hen] at h
     obtain ⟨i,q,y,h1,h2,h3,h4,h5⟩:=flat_cell hen l _ u h
     exact ⟨i+1,q,y,by rw [Nat.add_mul];omega,by simp;omega,h3,by simpa using h4,h5⟩
theorem flat_length {α:Type} {en:α→List Value} {sz:Nat} (hen:∀ x,(en x).length=sz):∀ (l:List α),(l.flatMap en).length=l.length * sz
 | []=>by simp
 | x::l=>by
   rw [List.flatMap_cons,List.length_append,hen,flat_length hen l,List.length_cons,Nat.add_mul]
   omega
theorem open_elems {α:Type} [Inhabited α] {t e:TypeId} {fuel sz by':Nat} {v:Value} {y:DataW H×List MemPlace} (ht:P.underlying t=some (.slice e)) (hC:P.cellsOf e=sz) (hby:P.bytesOf e=by') (hb0:0 < by') (hsz:0 < sz)
   (en:α→List Value) (hen:∀ x,(en x).length=sz) (G:α→Prop)
   (hel:∀ (cs:List Value) (n:Nat) (y:DataW H×List MemPlace),cs.length=sz→DataW.trod enc P w 0 (fun _=>true) true n e cs=some y→Plc.Fits P e y.1→∃ x,cs=en x∧G x)
   (h:DataW.trod enc P w 0 (fun _=>true) true fuel t [v]=some y) (hf:Plc.Fits P t y.1):∃ l:List α,ReadsV w w.heap.size v l.length sz (l.flatMap en)∧(∀ x∈l,G x)∧l.length * by'≤reachBytes:=by
 rcases open_slice ht h with ⟨h0,rfl⟩ | ⟨a,len,cap,m,n,D,Pl,hcs,_,hl,hm,hmm,hx,hi⟩
 · simp at h0
   subst h0
   exact ⟨[],⟨by simp,none,0,rfl,Nat.le_refl _,Nat.zero_le _,.inl rfl⟩,by simp,by simp⟩
 · simp at hcs
   subst hcs hx
   have hlen:=Plc.fits_len ht hf
   rw [hby] at hlen
   simp only [List.length_map,List.length_range] at hlen
   simp at hmm
   have hz:∀ i,i < len→∃ x:α,(∀ q u,(en x)[q]?=some u→w.cell? (a.add (i * sz+q))=some u)∧G x:=by
     intro i hil
     obtain ⟨cs',hc,ht'⟩:=hi i (by omega)
     rw [hC] at hc
     obtain ⟨_,hcl2,hat⟩:=World.cells?_some hc
     obtain ⟨x,rfl,hG⟩:=hel cs' _ _ hcl2 ht' (fits_el ht hf (i:=i) (by simp [hil]))
     refine ⟨x,fun q u hu=>?_,hG⟩
     have hq:q < sz:=by
       have:=(List.getElem?_eq_some_iff.1 hu).1
       rw [hen] at this
       exact this
     have h1:=hat q hq
     rw [Go.Deep.add_add] at h1
     rw [h1,hu]
   obtain ⟨l,hll,hq⟩:=Plc.exists_list (default:α) _ len hz
   have hxl:∀ i x,l[i]?=some x→i < len∧(∀ q u,(en x)[q]?=some u→w.cell? (a.add (i * sz+q))=some u)∧G x:=fun i x hx=>by
     have h1:=(List.getElem?_eq_some_iff.1 hx).1
     have h2:=hq i (by omega)
     rw [List.getD_eq_getElem?_getD,hx] at h2
     exact ⟨by omega,h2⟩
   have hcap:len * by'≤(len+(m - len)) * by':=Nat.mul_le_mul_right _ (by omega)
   refine ⟨l,⟨flat_length hen l,some a,cap,by rw [hll],by omega,hm,?_⟩,fun x hx=>?_,by rw [hll];omega⟩
   · by_cases h0:len=0
     · left
       omega
     · right
       obtain ⟨x0,hx0⟩:∃ x,l[0]?=some x:=⟨l[0]'(by omega),List.getElem?_eq_getElem _⟩
       have hc0:=(hxl 0 x0 hx0).2.1 0 ((en x0)[0]'(by rw [hen];exact hsz)) (List.getElem?_eq_getElem _)
       obtain ⟨b,off,spot⟩:=a
       have hspot:spot=none:=by simpa [Addr.add] using World.cell?_spot hc0
       subst hspot
       have hadd:∀ j,(⟨b,off,none⟩:Addr).add j=⟨b,off+j,none⟩:=fun j=>by unfold Addr.add;split <;> simp_all
       rw [hadd] at hc0
       refine ⟨b,off,rfl,by simpa using World.block_lt_of_cell? w _ hc0,fun j u hu=>?_⟩
       obtain ⟨i,q,x,rfl,h1,h2,h3,h4⟩:=flat_cell hen l j u hu
       have h5:=(hxl i x h3).2.1 q u h4
       rw [hadd] at h5
       exact h5
   · obtain ⟨i,hi',rfl⟩:=List.getElem_of_mem hx
     exact (hxl i _ (List.getElem?_eq_getElem _)).2.2
end
structure SetD where
 c:Plc.Cfg
 rv:Value
 rs:List (Int×Int)
 pv:Value
 progs:List ByteArray
 tv:Value
 tl:List (Value×List (Int×List Int×Value))
def SetD.val (s:SetD):Value:=.agg #[.int .i64 s.c.raw,.int .i64 s.c.ring,.int .i64 s.c.writes,.int .i64 s.c.stamps,.bool s.c.multi,.int .i64 s.c.tries,s.rv,s.pv,s.tv]
def JobR (w:World) (B:Nat) (j:Int×List Int×Value):Prop:=I64 j.1∧(∀ z∈j.2.1,I64 z)∧ReadsV w B j.2.2 j.2.1.length 1 (ints j.2.1)∧j.2.1.length≤17592186044416
def ThrR (w:World) (B:Nat) (t:Value×List (Int×List Int×Value)):Prop:=ReadsV w B t.1 t.2.length 2 (jobC t.2)∧(∀ j∈t.2,JobR w B j)∧t.2.length≤4398046511104
structure SetupR (w:World) (B:Nat) (s:SetD):Prop where
 regs:ReadsV w B s.rv s.rs.length 2 (s.rs.flatMap fun r=>[.int .i64 r.1,.int .i64 r.2])∧s.rs.length≤8796093021952
 progs:ReadsV w B s.pv s.progs.length 1 (s.progs.map .string)∧s.progs.length≤8796093022208
 thr:ReadsV w B s.tv s.tl.length 1 (s.tl.map (·.1))∧s.tl.length≤5864062014805
 each:∀ t∈s.tl,ThrR w B t
 word:I64 s.c.raw∧I64 s.c.ring∧I64 s.c.writes∧I64 s.c.stamps∧I64 s.c.tries
theorem SetupR.below {w w':World} {B:Nat} {s:SetD} (h:SetupR w B s) (hb:Below B w w'):SetupR w' B s :=
 ⟨⟨h.regs.1.below hb,h.regs.2⟩,⟨h.progs.1.below hb,h.progs.2⟩,⟨h.thr.1.below hb,h.thr.2⟩,fun t ht=>⟨(h.each t ht).1.below hb,fun j hj=>⟨((h.each t ht).2.1 j hj).1,((h.each t ht).2.1 j hj).2.1,((h.each t ht).2.1 j hj).2.2.1.below hb,((h.each t ht).2.1 j hj).2.2.2⟩,(h.each t ht).2.2⟩,h.word⟩
theorem SetupR.up {w:World} {B B':Nat} {s:SetD} (h:SetupR w B s) (hb:B≤B'):SetupR w B' s :=
 ⟨⟨h.regs.1.up hb,h.regs.2⟩,⟨h.progs.1.up hb,h.progs.2⟩,⟨h.thr.1.up hb,h.thr.2⟩,fun t ht=>⟨(h.each t ht).1.up hb,fun j hj=>⟨((h.each t ht).2.1 j hj).1,((h.each t ht).2.1 j hj).2.1,((h.each t ht).2.1 j hj).2.2.1.up hb,((h.each t ht).2.1 j hj).2.2.2⟩,(h.each t ht).2.2⟩,h.word⟩
theorem flat_one {α:Type} (g:α→Value) (l:List α):l.flatMap (fun x=>[g x])=l.map g:=by
 induction l with
 | nil=>rfl
 | cons x l ih=>simp [ih]
theorem i64_wf {z:Int} (h:(Lit.int .i64 z).wf=true):I64 z:=by
 have:=bounds_i64 h
 unfold I64
 omega
section
variable {H:Type} {enc:TypeId×Value→H} {w:World}
theorem open_ints' {fuel:Nat} {v:Value} {y:DataW H×List MemPlace} (h:DataW.trod enc Tryz.prog w 0 (fun _=>true) true fuel 66 [v]=some y) (hf:Plc.Fits Tryz.prog 66 y.1) :
   ∃ xs:List Int,ReadsV w w.heap.size v xs.length 1 (ints xs)∧(∀ z∈xs,I64 z)∧xs.length * 8≤reachBytes:=by
 obtain ⟨l,h1,h2,h3⟩:=open_elems (α:=Int) (by':=8) (sz:=1) Tryz.underlying66 (by kernel_rfl) (by kernel_rfl) (by decide) (by decide) (fun z=>[.int .i64 z]) (fun _=>rfl) I64 (fun cs n y hl hy _=>by
   match cs,hl with
   | [c0],_ =>
     obtain ⟨z,e,-,hw⟩:=DataW.trod_int Tryz.underlying2 hy
     simp at e
     exact ⟨z,by rw [e],i64_wf hw⟩) h hf
 refine ⟨l,?_,h2,h3⟩
 rw [flat_one] at h1
 exact h1
theorem open_jobs {fuel:Nat} {v:Value} {y:DataW H×List MemPlace} (h:DataW.trod enc Tryz.prog w 0 (fun _=>true) true fuel 61 [v]=some y) (hf:Plc.Fits Tryz.prog 61 y.1) :
   ∃ xs:List (Int×List Int×Value),ThrR w w.heap.size (v,xs):=by
 obtain ⟨l,h1,h2,h3⟩:=open_elems (α:=Int×List Int×Value) (by':=32) (sz:=2) Tryz.underlying61 (by kernel_rfl) (by kernel_rfl) (by decide) (by decide) (fun j=>[.int .i64 j.1,j.2.2]) (fun _=>rfl) (JobR w w.heap.size) (fun cs n y hl hy hfy=>by
   match cs,hl with
   | [c0,c1],_ =>
     obtain ⟨ys,n',_,hyx,hcl,hyl,hg⟩:=DataW.trod_struct Tryz.underlying68 hy
     match ys,hyl with
     | [y0,y1],_ =>
       have g0:DataW.trod enc Tryz.prog w 0 (fun _=>true) true n' 3 (([c0,c1].drop 0).take (Tryz.prog.cellsOf 3))=[y0,y1][0]?:=hg 0 _ rfl
       have g1:DataW.trod enc Tryz.prog w 0 (fun _=>true) true n' 66 (([c0,c1].drop 1).take (Tryz.prog.cellsOf 66))=[y0,y1][1]?:=hg 1 _ rfl
       rw [show Tryz.prog.cellsOf 3=1 by kernel_rfl] at g0
       rw [show Tryz.prog.cellsOf 66=1 by kernel_rfl] at g1
       rw [hyx] at hfy
       obtain ⟨z0,e0,_,hw⟩:=DataW.trod_int Tryz.underlying3 (show DataW.trod enc Tryz.prog w 0 (fun _=>true) true n' 3 [c0]=some y0 by simpa using g0)
       obtain ⟨xs,h1,h2,h3⟩:=open_ints' (show DataW.trod enc Tryz.prog w 0 (fun _=>true) true n' 66 [c1]=some y1 by simpa using g1) (Plc.fits_struct Tryz.underlying68 hfy (j:=1) rfl rfl)
       simp at e0
       exact ⟨(z0,xs,c1),by rw [e0],i64_wf hw,h2,h1,by unfold reachBytes at h3;dsimp only;omega⟩) h hf
 exact ⟨l,h1,h2,by unfold reachBytes at h3;dsimp only;omega⟩
theorem open_cfg {fuel:Nat} {cs:List Value} {y:DataW H×List MemPlace} (hl:cs.length=7) (h:DataW.trod enc Tryz.prog w 0 (fun _=>true) true fuel 24 cs=some y) (hf:Plc.Fits Tryz.prog 24 y.1) :
   ∃ (c:Plc.Cfg) (rv:Value) (rs:List (Int×Int)),cs=[.int .i64 c.raw,.int .i64 c.ring,.int .i64 c.writes,.int .i64 c.stamps,.bool c.multi,.int .i64 c.tries,rv]∧(I64 c.raw∧I64 c.ring∧I64 c.writes∧I64 c.stamps∧I64 c.tries)∧ReadsV w w.heap.size rv rs.length 2 (rs.flatMap fun r=>[.int .i64 r.1,.int .i64 r.2])∧rs.length * 16≤reachBytes:=by
 match cs,hl with
 | [c0,c1,c2,c3,c4,c5,c6],_ =>
   obtain ⟨ys,n',_,hyx,hcl,hyl,hg⟩:=DataW.trod_struct Tryz.underlying24 h
   match ys,hyl with
   | [y0,y1,y2,y3,y4,y5,y6],_ =>
     have k1:Tryz.prog.cellsOf 3=1:=by kernel_rfl
     have k2:Tryz.prog.cellsOf 2=1:=by kernel_rfl
     have k3:Tryz.prog.cellsOf 4=1:=by kernel_rfl
     have k4:Tryz.prog.cellsOf 22=1:=by kernel_rfl
     have g0:DataW.trod enc Tryz.prog w 0 (fun _=>true) true n' 3 (([c0,c1,c2,c3,c4,c5,c6].drop 0).take (Tryz.prog.cellsOf 3))=[y0,y1,y2,y3,y4,y5,y6][0]?:=hg 0 _ rfl
     have g1:DataW.trod enc Tryz.prog w 0 (fun _=>true) true n' 3 (([c0,c1,c2,c3,c4,c5,c6].drop 1).take (Tryz.prog.cellsOf 3))=[y0,y1,y2,y3,y4,y5,y6][1]?:=hg 1 _ rfl
     have g2:DataW.trod enc Tryz.prog w 0 (fun _=>true) true n' 3 (([c0,c1,c2,c3,c4,c5,c6].drop 2).take (Tryz.prog.cellsOf 3))=[y0,y1,y2,y3,y4,y5,y6][2]?:=hg 2 _ rfl
     have g3:DataW.trod enc Tryz.prog w 0 (fun _=>true) true n' 2 (([c0,c1,c2,c3,c4,c5,c6].drop 3).take (Tryz.prog.cellsOf 2))=[y0,y1,y2,y3,y4,y5,y6][3]?:=hg 3 _ rfl
     have g4:DataW.trod enc Tryz.prog w 0 (fun _=>true) true n' 4 (([c0,c1,c2,c3,c4,c5,c6].drop 4).take (Tryz.prog.cellsOf 4))=[y0,y1,y2,y3,y4,y5,y6][4]?:=hg 4 _ rfl
     have g5:DataW.trod enc Tryz.prog w 0 (fun _=>true) true n' 3 (([c0,c1,c2,c3,c4,c5,c6].drop 5).take (Tryz.prog.cellsOf 3))=[y0,y1,y2,y3,y4,y5,y6][5]?:=hg 5 _ rfl
     have g6:DataW.trod enc Tryz.prog w 0 (fun _=>true) true n' 22 (([c0,c1,c2,c3,c4,c5,c6].drop 6).take (Tryz.prog.cellsOf 22))=[y0,y1,y2,y3,y4,y5,y6][6]?:=hg 6 _ rfl
     rw [k1] at g0 g1 g2 g5
     rw [k2] at g3
     rw [k3] at g4
     rw [k4] at g6
     rw [hyx] at hf
     obtain ⟨z0,e0,_,w0⟩:=DataW.trod_int Tryz.underlying3 (show DataW.trod enc Tryz.prog w 0 (fun _=>true) true n' 3 [c0]=some y0 by simpa using g0)
     obtain ⟨z1,e1,_,w1⟩:=DataW.trod_int Tryz.underlying3 (show DataW.trod enc Tryz.prog w 0 (fun _=>true) true n' 3 [c1]=some y1 by simpa using g1)
     obtain ⟨z2,e2,_,w2⟩:=DataW.trod_int Tryz.underlying3 (show DataW.trod enc Tryz.prog w 0 (fun _=>true) true n' 3 [c2]=some y2 by simpa using g2)
     obtain ⟨z3,e3,_,w3⟩:=DataW.trod_int Tryz.underlying2 (show DataW.trod enc Tryz.prog w 0 (fun _=>true) true n' 2 [c3]=some y3 by simpa using g3)
     obtain ⟨z4,e4,_⟩:=DataW.trod_bool Tryz.underlying4 (show DataW.trod enc Tryz.prog w 0 (fun _=>true) true n' 4 [c4]=some y4 by simpa using g4)
     obtain ⟨z5,e5,_,w5⟩:=DataW.trod_int Tryz.underlying3 (show DataW.trod enc Tryz.prog w 0 (fun _=>true) true n' 3 [c5]=some y5 by simpa using g5)
     obtain ⟨rs,h1,-,h3⟩:=open_elems (α:=Int×Int) (by':=16) (sz:=2) Tryz.underlying22 (by kernel_rfl) (by kernel_rfl) (by decide) (by decide) (fun r=>[.int .i64 r.1,.int .i64 r.2]) (fun _=>rfl) (fun _=>True) (fun cs n y hl hy hfy=>by
       match cs,hl with
       | [d0,d1],_ =>
         obtain ⟨us,n2,_,hux,_,hul,hh⟩:=DataW.trod_struct Tryz.underlying90 hy
         match us,hul with
         | [u0,u1],_ =>
           have f0:DataW.trod enc Tryz.prog w 0 (fun _=>true) true n2 3 (([d0,d1].drop 0).take (Tryz.prog.cellsOf 3))=[u0,u1][0]?:=hh 0 _ rfl
           have f1:DataW.trod enc Tryz.prog w 0 (fun _=>true) true n2 3 (([d0,d1].drop 1).take (Tryz.prog.cellsOf 3))=[u0,u1][1]?:=hh 1 _ rfl
           rw [k1] at f0 f1
           obtain ⟨a0,b0,_,_⟩:=DataW.trod_int Tryz.underlying3 (show DataW.trod enc Tryz.prog w 0 (fun _=>true) true n2 3 [d0]=some u0 by simpa using f0)
           obtain ⟨a1,b1,_,_⟩:=DataW.trod_int Tryz.underlying3 (show DataW.trod enc Tryz.prog w 0 (fun _=>true) true n2 3 [d1]=some u1 by simpa using f1)
           simp at b0 b1
           exact ⟨(a0,a1),by rw [b0,b1],trivial⟩) (show DataW.trod enc Tryz.prog w 0 (fun _=>true) true n' 22 [c6]=some y6 by simpa using g6) (Plc.fits_struct Tryz.underlying24 hf (j:=6) rfl rfl)
     simp at e0 e1 e2 e3 e4 e5
     subst e0 e1 e2 e3 e4 e5
     exact ⟨⟨z0,z1,z2,z3,z4,z5⟩,c6,rs,rfl,⟨i64_wf w0,i64_wf w1,i64_wf w2,i64_wf w3,i64_wf w5⟩,h1,h3⟩
theorem open_setup {r:Reach} {b0:Nat} {v:Value} {d:DataW H} {p:List MemPlace}
   (hv:Value.okWide Tryz.prog w r b0 28 v) (h:DataW.Trod enc Tryz.prog w 0 (fun _=>true) true 28 v d p) (hf:Plc.Fits Tryz.prog 28 d) :
   ∃ s:SetD,v=s.val∧SetupR w w.heap.size s:=by
 obtain ⟨cs,rfl,hsz⟩:=okWide_struct Tryz.underlying28 hv
 obtain ⟨l⟩:=cs
 have hsz9:Tryz.prog.cellsOf 28=9:=by kernel_rfl
 match l,hsz.trans hsz9 with
 | [c0,c1,c2,c3,c4,c5,c6,c7,c8],_ =>
   obtain ⟨fuel,hfu⟩:=h
   obtain ⟨ys,n',_,hyx,hcl,hyl,hg⟩:=DataW.trod_struct Tryz.underlying28 hfu
   match ys,hyl with
   | [y0,y1,y2],_ =>
     have g0:DataW.trod enc Tryz.prog w 0 (fun _=>true) true n' 24 (([c0,c1,c2,c3,c4,c5,c6,c7,c8].drop 0).take (Tryz.prog.cellsOf 24))=[y0,y1,y2][0]?:=hg 0 _ rfl
     have g1:DataW.trod enc Tryz.prog w 0 (fun _=>true) true n' 25 (([c0,c1,c2,c3,c4,c5,c6,c7,c8].drop 7).take (Tryz.prog.cellsOf 25))=[y0,y1,y2][1]?:=hg 1 _ rfl
     have g2:DataW.trod enc Tryz.prog w 0 (fun _=>true) true n' 26 (([c0,c1,c2,c3,c4,c5,c6,c7,c8].drop 8).take (Tryz.prog.cellsOf 26))=[y0,y1,y2][2]?:=hg 2 _ rfl
     rw [show Tryz.prog.cellsOf 24=7 by kernel_rfl] at g0
     rw [show Tryz.prog.cellsOf 25=1 by kernel_rfl] at g1
     rw [show Tryz.prog.cellsOf 26=1 by kernel_rfl] at g2
     have hyx2:d=.agg [y0.1,y1.1,y2.1]:=by
       simp only [Prod.mk.injEq] at hyx
       simpa using hyx.1
     subst hyx2
     obtain ⟨c,rv,rs,hcs,hw,hr,hrl⟩:=open_cfg (cs:=[c0,c1,c2,c3,c4,c5,c6]) rfl (y:=y0) (by simpa using g0) (Plc.fits_struct Tryz.underlying28 hf (j:=0) rfl rfl)
     obtain ⟨ps,h1,-,h3⟩:=open_elems (α:=ByteArray) (by':=16) (sz:=1) Tryz.underlying25 (by kernel_rfl) (by kernel_rfl) (by decide) (by decide) (fun z=>[.string z]) (fun _=>rfl) (fun _=>True) (fun cs n y hl hy _=>by
       match cs,hl with
       | [d0],_ =>
         obtain ⟨z,e,-,-⟩:=DataW.trod_string Tryz.underlying9 hy
         simp at e
         exact ⟨z,by rw [e],trivial⟩) (show DataW.trod enc Tryz.prog w 0 (fun _=>true) true n' 25 [c7]=some y1 by simpa using g1) (Plc.fits_struct Tryz.underlying28 hf (j:=1) rfl rfl)
     obtain ⟨tl,t1,t2,t3⟩:=open_elems (α:=Value×List (Int×List Int×Value)) (by':=24) (sz:=1) Tryz.underlying26 (by kernel_rfl) (by kernel_rfl) (by decide) (by decide) (fun z=>[z.1]) (fun _=>rfl) (ThrR w w.heap.size) (fun cs n y hl hy hfy=>by
       match cs,hl with
       | [d0],_ =>
         obtain ⟨xs,hxs⟩:=open_jobs hy hfy
         exact ⟨(d0,xs),rfl,hxs⟩) (show DataW.trod enc Tryz.prog w 0 (fun _=>true) true n' 26 [c8]=some y2 by simpa using g2) (Plc.fits_struct Tryz.underlying28 hf (j:=2) rfl rfl)
     simp only [List.cons.injEq,and_true] at hcs
     obtain ⟨rfl,rfl,rfl,rfl,rfl,rfl,rfl⟩:=hcs
     refine ⟨⟨c,c6,rs,c7,ps,c8,tl⟩,rfl,⟨hr,by unfold reachBytes at hrl;dsimp only;omega⟩,⟨by rw [← flat_one];exact h1,by unfold reachBytes at h3;dsimp only;omega⟩,⟨by rw [← flat_one];exact t1,by unfold reachBytes at t3;dsimp only;omega⟩,t2,hw⟩
end
end
section
open Go.RowKit
variable {w:World} {Cs:List Comp}
def jobsC (jl:List (Int×List Int×Value)):List Comp:=jl.map fun j=>cI j.2.2 j.2.1
theorem run_append_all {P:Program} (t ty e:TypeId) (i:TypeInfo) (z:Value) (sz bytes:Nat) (ht:P.underlying t=some (.slice e)) (hi:P.info? e=some i) (hz:i.zero=some z) (hsize:i.size=sz) (hby:i.bytes=bytes) (hzs:z.cells.size=sz) (hsz:0 < sz)
   (w:World) (B:Nat) (v:Value) (m:Nat) (vs:List Value) (hr:ReadsV w B v m sz vs) (h1:∀ u∈vs,u.oneCell'=true) (hbytes:m * bytes≤140737488355328) :
   ∃ v' w',(Builtin.append_ #[t,t] ty #[.slice none 0 0,v]).run P w=.ok v' w'∧RowAt w' e sz v' m vs∧w.grownBy w' none∧(∀ x∈rowF v',w.heap.size≤x):=by
 obtain ⟨hl,a,c,rfl,hc,hcm,h⟩:=hr
 by_cases h0:m=0
 · subst h0
   obtain rfl:vs=[]:=List.eq_nil_of_length_eq_zero (by simpa using hl)
   have hsrc:Src P i.size t (.slice a 0 c) 0 [] w:=by
     cases a with
     | none=>exact Src.ofNil w ht c
     | some a=>exact Src.ofSlice w ht a 0 c [] (by simp) (fun j u hu=>by simp at hu) (fun _ hx=>nomatch hx)
   exact ⟨_,w,run_append_nothing (P:=P) w t t ty e i ht hi none 0 0 (Nat.le_refl _) _ hsrc,rowAt_nil _ _ _,World.grownBy.refl _ _,by simp [rowF]⟩
 · rcases h with h | ⟨b,off,rfl,hb,hcell⟩
   · exact absurd h h0
   obtain ⟨g,cap,w',h2,h3,h4,h5,h6⟩:=run_append_lies (P:=P) w t ty 0 e i z sz bytes ht hi hz hsize hby hzs hsz (.slice none 0 0) 0 [] (World.ownsRow_nil _ _ _ _) ⟨b,off,none⟩ m c vs hl
     (fun j u hu=>by
       have hadd:(⟨b,off,none⟩:Addr).add j=⟨b,off+j,none⟩:=by unfold Addr.add;split <;> simp_all
       rw [hadd];exact hcell j u hu) h1 (by omega) (by omega) (by rw [Nat.zero_add];exact hbytes) (Nat.zero_le _) _ rfl
   rw [Nat.zero_add] at h2 h3
   refine ⟨_,w',h2,by rw [List.nil_append] at h3;exact h3,h4,fun x hx=>?_⟩
   simp [rowF] at hx
   subst hx
   rcases h5 with h5 | h5
   · simp [Value.ownBlock] at h5
   · omega
theorem Sep.got_row {w0 w':World} {X:List Nat} {e:TypeId} {sz m:Nat} {v':Value} {vs:List Value} (h:Sep w0 X Cs w) (hr:RowAt w' e sz v' m vs) (hg:w.grownBy w' none) (hf:∀ x∈rowF v',w.heap.size≤x):Sep w0 X (cRow e sz v' m vs::Cs) w' :=
 h.more (C3:=[cRow e sz v' m vs]) ⟨(Kept.refl _ _).grown hg (fun q hq=>nomatch hq),fun c hc=>by rw [List.mem_singleton.1 hc];exact hr,by
   obtain ⟨a,m',c,rfl⟩:=hr.form
   cases a with
   | none=>simp [feet,cRow,rowF]
   | some a=>simp [feet,cRow,rowF],fun x hx=>.inr (hf x (by simpa [feet,cRow] using hx))⟩
theorem wpList_append_all {P:Program} {ops:Array Oper} {rest:List Oper} {o:Oper} {a:Act} {Q:Exit→Act→World→Prop} (w:World) (hgd:o.guard=none) (s x:Operand) (t:TypeId)
   (ho:o.op=.call { callee:=.builtin .append,args:=#[s,x],argTypes:=#[t,t] }) (e:TypeId) (i:TypeInfo) (z:Value) (sz bytes:Nat) (ht:P.underlying t=some (.slice e)) (hi:P.info? e=some i) (hz:i.zero=some z) (hsize:i.size=sz) (hby:i.bytes=bytes) (hzs:z.cells.size=sz) (hsz:0 < sz)
   (B:Nat) (v:Value) (m:Nat) (vs:List Value) (hs:a.eval s=.slice none 0 0) (hx:a.eval x=v) (hr:ReadsV w B v m sz vs) (h1:∀ u∈vs,u.oneCell'=true) (hbytes:m * bytes≤140737488355328)
   (h:∀ v' w',RowAt w' e sz v' m vs→w.grownBy w' none→(∀ x∈rowF v',w.heap.size≤x)→wpList P ops Q rest (a.put o.dst v') w'):wpList P ops Q (o::rest) a w:=by
 obtain ⟨v',w',h2,h3,h4,h5⟩:=run_append_all t o.type e i z sz bytes ht hi hz hsize hby hzs hsz w B v m vs hr h1 hbytes
 exact Lib.wpList_append_run w hgd s x t t ho _ v hs hx v' w' h2 (h v' w' h3 h4 h5)
theorem step_append_all {P:Program} {ops:Array Oper} {o:Oper} {a:Act} {K:Act→World→Prop} {Q:Exit→Act→World→Prop} {E:Prop} (w:World) (hgd:o.guard=none) (s x:Operand) (t:TypeId)
   (ho:o.op=.call { callee:=.builtin .append,args:=#[s,x],argTypes:=#[t,t] }) (e:TypeId) (i:TypeInfo) (z:Value) (sz bytes:Nat) (ht:P.underlying t=some (.slice e)) (hi:P.info? e=some i) (hz:i.zero=some z) (hsize:i.size=sz) (hby:i.bytes=bytes) (hzs:z.cells.size=sz) (hsz:0 < sz)
   (B:Nat) (v:Value) (m:Nat) (vs:List Value) (hs:a.eval s=.slice none 0 0) (hx:a.eval x=v) (hr:ReadsV w B v m sz vs) (h1:∀ u∈vs,u.oneCell'=true) (hbytes:m * bytes≤140737488355328)
   (h:∀ v' w',RowAt w' e sz v' m vs→w.grownBy w' none→(∀ x∈rowF v',w.heap.size≤x)→K (a.put o.dst v') w'):if Region.wanted o (yielded ops a.tmps)=true then Oper.wp P o a w K Q else E:=by
 have hw:Region.wanted o (yielded ops a.tmps)=true:=by simp [Region.wanted,hgd]
 rw [if_pos hw]
 obtain ⟨v',w',h2,h3,h4,h5⟩:=run_append_all t o.type e i z sz bytes ht hi hz hsize hby hzs hsz w B v m vs hr h1 hbytes
 exact Lib.wp_append_run w s x t t ho _ v hs hx v' w' h2 (h v' w' h3 h4 h5)
end
end Go.Proofs.YtgfogfciobmmpaaGreatDoor
