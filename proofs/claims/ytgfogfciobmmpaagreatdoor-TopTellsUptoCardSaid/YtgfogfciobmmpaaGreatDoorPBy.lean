/- A part of the proof of the law TopTells: Wld. -/
import Derived.Test.YtgfogfciobmmpaaGreatDoorPBw
import Derived.Test.YtgfogfciobmmpaaGreatDoorPBx
set_option linter.unusedSimpArgs false
set_option linter.unusedVariables false
set_option maxRecDepth 100000
set_option maxHeartbeats 8000000
namespace Go.Proofs.YtgfogfciobmmpaaGreatDoor
section
open Go.RowKit
variable {w0:World} {X:List Nat} {Cs:List Comp} {w:World}
theorem getD_of {α:Type} {l:List α} {i:Nat} {x e:α} (h:l[i]?=some x):l.getD i e=x:=by
 rw [List.getD_eq_getElem?_getD,h]
 rfl
structure TD where
 job:Option JobD
 tx:Int
 stamp:Int
 no:Nat
structure WD where
 m:MemD
 th:List TD
 ev:List EvT
 opened:Int
 steps:Int
def nextJ:JNext→Option JobD
 | .on j=>some j
 | .over=>none
def nextNo (n:Nat):JNext→Nat
 | .on _=>n
 | .over=>n+1
def newJ (c:CfgD):JobD:=⟨newTx c.ring c.writes c.stamps c.multi,false,false,[]⟩
inductive WStep (c:CfgD) (nj:Nat→Nat) (d:WD) (i:Int):AnsD→WD→Prop
 | out:(i < 0∨(d.th.length:Int)≤i)→WStep c nj d i ansNone d
 | full {n:Nat} {t:TD}:i=n→d.th[n]?=some t→t.job=none→t.no=nj n→WStep c nj d i ansNone d
 | step {n:Nat} {t:TD} {j:JobD} {a:AnsD} {new:List EvD} {m':MemD} {nx:JNext}:i=n→d.th[n]?=some t→t.no < nj n→(t.job=some j∨t.job=none∧j=newJ c)→JStep c d.m j a new m' nx →
     WStep c nj d i a ⟨m',d.th.set n ⟨nextJ nx,(new.foldl tkS ⟨d.opened,t.tx,t.stamp⟩).tx,(new.foldl tkS ⟨d.opened,t.tx,t.stamp⟩).stamp,nextNo t.no nx⟩,d.ev++tkAll d.steps i ⟨d.opened,t.tx,t.stamp⟩ new,(new.foldl tkS ⟨d.opened,t.tx,t.stamp⟩).opened,d.steps+1⟩
structure WOk (c:CfgD) (d:WD):Prop where
 mem:MemOk d.m
 ring:d.m.ring=c.ring
 job:∀ t∈d.th,∀ j,t.job=some j→JobOk c j d.m
theorem wOk_job {c:CfgD} {d:WD} (hc:CfgOk c) (h:WOk c d) {t:TD} (ht:t∈d.th) {j:JobD} (hj:t.job=some j∨t.job=none∧j=newJ c):JobOk c j d.m:=by
 rcases hj with hj | ⟨-,rfl⟩
 · exact h.job t ht j hj
 · exact new_job hc h.ring
theorem wstep_ok {c:CfgD} {nj:Nat→Nat} {d d':WD} {i:Int} {a:AnsD} (hc:CfgOk c) (h:WOk c d) (hs:WStep c nj d i a d') :
   WOk c d'∧d'.th.length=d.th.length∧∃ new:List EvD,TellsOk a new∧∃ s:TkS,d'.ev=d.ev++tkAll d.steps i s new:=by
 cases hs with
 | out h1=>exact ⟨h,rfl,[],tells_none (by decide) (by decide) rfl,⟨0,0,0⟩,by simp [tkAll]⟩
 | full h1 h2 h3 h4=>exact ⟨h,rfl,[],tells_none (by decide) (by decide) rfl,⟨0,0,0⟩,by simp [tkAll]⟩
 | @step n t j a new m' nx h1 h2 h3 h4 h5 =>
   have hj:=wOk_job hc h (List.mem_of_getElem? h2) h4
   obtain ⟨k1,k2,k3,k4,k5⟩:=job_step hc h.mem hj h5
   refine ⟨⟨k3,k4.trans h.ring,fun t' ht' j' hj'=>?_⟩,by simp,new,k1,⟨d.opened,t.tx,t.stamp⟩,rfl⟩
   rcases List.mem_or_eq_of_mem_set ht' with ht' | rfl
   · exact (h.job t' ht' j' hj').mem k4 k5
   · cases nx with
     | on j2 =>
       simp only [nextJ,Option.some.injEq] at hj'
       subst hj'
       exact k2
     | over=>simp [nextJ] at hj'
def JobP (x:Nat) (k:PCfg) (rv:Value) (hi:Int) (j:JobD) (Rs:List Comp):Prop :=
 ∃ f st cs ts F,PfOk f st cs ts j∧f.rv=rv∧((f.ask=.nilIface∧Rs=jC x k f st cs ts j.old j.tx F []) ∨
   ∃ (K:AskK) (pa:Nat) (am:K.S) (FA:List Nat),f.ask=.iface K.ty (ptr pa)∧Good K hi 40 am∧st.length≤30∧f.came=.heard∧Rs=jC x k f st cs ts j.old j.tx F [cAsk K pa am FA])
theorem jC_app {x:Nat} {k:PCfg} {f:PF} {st cs ts:List Int} {old:List EvD} {t:TxD} {F:List Nat} (A B:List Comp):jC x k f st cs ts old t F A++B=jC x k f st cs ts old t F (A++B):=by
 simp [jC,pC]
theorem jobAt_of {x:Nat} {k:PCfg} {rv:Value} {hi:Int} {j:JobD} {Rs:List Comp} {told:List EvD} (h:JobP x k rv hi j Rs) (S:Sep w0 X (Rs++Cs) w):JobAt w0 X Cs x k rv hi told (.on j) w:=by
 obtain ⟨f,st,cs,ts,F,h1,h2,⟨h3,rfl⟩ | ⟨K,pa,am,FA,h3,h4,h5,h6,rfl⟩⟩:=h
 · rw [jC_app] at S
   exact ⟨f,st,cs,ts,F,h1,h2,.inl ⟨h3,S⟩⟩
 · rw [jC_app] at S
   exact ⟨f,st,cs,ts,F,h1,h2,.inr ⟨K,pa,am,FA,h3,h4,h5,h6,S⟩⟩
theorem of_jobAt {x:Nat} {k:PCfg} {rv:Value} {hi:Int} {j:JobD} {told:List EvD} (h:JobAt w0 X Cs x k rv hi told (.on j) w):∃ Rs,JobP x k rv hi j Rs∧Sep w0 X (Rs++Cs) w:=by
 obtain ⟨f,st,cs,ts,F,h1,h2,⟨h3,S⟩ | ⟨K,pa,am,FA,h3,h4,h5,h6,S⟩⟩:=h
 · refine ⟨_,⟨f,st,cs,ts,F,h1,h2,.inl ⟨h3,rfl⟩⟩,?_⟩
   rw [jC_app]
   exact S
 · refine ⟨_,⟨f,st,cs,ts,F,h1,h2,.inr ⟨K,pa,am,FA,h3,h4,h5,h6,rfl⟩⟩,?_⟩
   rw [jC_app]
   exact S
structure FixW where
 wb:Nat
 mp:Nat
 tv:Value
 tbs:List Nat
 c:Plc.Cfg
 rs:List (Int×Int)
 rv:Value
 pv:Value
 progs:List ByteArray
 jvs:List Value
 jobs:List (List (Int×List Int×Value))
def FixW.cfg (f:FixW):CfgD:=⟨f.c.ring,f.c.writes,f.c.stamps,f.c.multi⟩
def FixW.hi (f:FixW):Int:=f.c.raw+Plc.sumSz f.rs f.rs.length
def FixW.nj (f:FixW) (i:Nat):Nat:=(f.jobs.getD i []).length
structure FixOk (w0:World) (X:List Nat) (f:FixW):Prop where
 check:Plc.checkE f.c f.rs=0
 thr:∀ W,Kept X w0 W→RowAt W 60 1 f.tv f.tbs.length (f.tbs.map ptr)
 regs:∀ W,Kept X w0 W→RowAt W 90 2 f.rv f.rs.length (regC f.rs)
 progs:∀ W,Kept X w0 W→RowAt W 9 1 f.pv f.progs.length (f.progs.map .string)
 plen:∀ p∈f.progs,p.size≤512
 pnum:f.progs.length≤16
 tnum:f.tbs.length≤8
 jnum:f.jobs.length=f.tbs.length∧f.jvs.length=f.tbs.length
 jobs:∀ (i:Nat) (l:List (Int×List Int×Value)) (v:Value),f.jobs[i]?=some l→f.jvs[i]?=some v→l.length≤32∧∀ W,Kept X w0 W→RowAt W 68 2 v l.length (jobC l)
 job:∀ l∈f.jobs,∀ j∈l,(0≤j.1∧j.1 < f.progs.length)∧j.2.1.length≤4∧(∀ z∈j.2.1,I64 z)∧∀ W,Kept X w0 W→RowAt W 2 1 j.2.2 j.2.1.length (ints j.2.1)
 tabled:Cod.Tabled w0
 low:0 ∉ X
theorem hi_le {c:Plc.Cfg} {rs:List (Int×Int)} (h:Plc.checkE c rs=0):1≤c.raw+Plc.sumSz rs rs.length∧c.raw+Plc.sumSz rs rs.length≤1024:=by
 have h1:=of_decide_eq_true (Plc.check_ok h)
 have h2:=Plc.sum_bd rs rs.length (Nat.le_refl _)
 omega
def FixW.sw (f:FixW) (ev:Value) (opened steps:Int):SW:=⟨f.c.raw,f.c.ring,f.c.writes,f.c.stamps,f.c.multi,f.c.tries,f.rv,f.pv,f.mp,f.tv,ev,opened,steps⟩
def ThrP (f:FixW) (m:MemD) (N:Nat) (i:Nat) (t:TD) (Ps:List Comp):Prop :=
 ∃ tb u ol Qs,f.tbs[i]?=some tb∧f.jvs[i]?=some u.jv∧Ps=cBlk tb (stO u)::cRow 74 3 u.ov t.no ol::Qs∧u.tx=t.tx∧u.stamp=t.stamp∧(0≤u.steps∧u.steps≤N)∧(0≤u.waits∧u.waits≤N)∧t.no≤f.nj i ∧
   match t.job with
   | none=>u.jp=.pointer none∧Qs=[]
   | some j=>t.no < f.nj i∧j.told.length≤N * 300∧∃ x k rv Rs,u.jp=ptr x∧u.taken=(j.told.length:Nat)∧k.c=f.cfg∧KOk k f.hi∧k.cells≤m.cells.length∧Qs=cReg rv k.regs::Rs∧JobP x k rv f.hi j Rs
def flat (f:Nat→List Comp):Nat→List Comp
 | 0=>[]
 | n+1=>flat f n++f n
def WAt (w0:World) (X:List Nat) (f:FixW) (Cs:List Comp) (N:Nat) (d:WD) (w:World):Prop :=
 ∃ ev L F Ps,Sep w0 X (cMem f.mp d.m L F::cBlk f.wb (swO (f.sw ev d.opened d.steps))::cEv ev d.ev::(flat Ps f.tbs.length++Cs)) w∧d.th.length=f.tbs.length∧(d.m.cells.length:Int)=f.hi ∧
   WOk f.cfg d∧(∀ i t,d.th[i]?=some t→ThrP f d.m N i t (Ps i))∧L≤N * 100∧d.ev.length≤N * 300∧(0≤d.opened∧d.opened≤N * 300)∧(0≤d.steps∧d.steps≤N)
theorem flat_at (Ps:Nat→List Comp) {i:Nat}:∀ {n:Nat},i < n→(flat Ps n).Perm (Ps i++flat (fun k=>if k=i then [] else Ps k) n)
 | n+1,h=>by
   by_cases e:i=n
   · subst e
     have h2:∀ n,n≤i→flat (fun k=>if k=i then [] else Ps k) n=flat Ps n:=by
       intro n
       induction n with
       | zero=>intro;rfl
       | succ n ih =>
         intro hn
         show flat _ n++(if n=i then [] else Ps n)=flat Ps n++Ps n
         rw [if_neg (by omega),ih (by omega)]
     show (flat Ps i++Ps i).Perm (Ps i++(flat (fun k=>if k=i then [] else Ps k) i++if i=i then [] else Ps i))
     rw [if_pos rfl,List.append_nil,h2 i (Nat.le_refl _)]
     exact List.perm_append_comm
   · have ih:=flat_at Ps (i:=i) (n:=n) (by omega)
     show (flat Ps n++Ps n).Perm (Ps i++(flat (fun k=>if k=i then [] else Ps k) n++if n=i then [] else Ps n))
     rw [if_neg (by omega),← List.append_assoc]
     exact List.Perm.append_right _ ih
theorem flat_set (Ps:Nat→List Comp) {i n:Nat} (h:i < n) (Q:List Comp):(Q++flat (fun k=>if k=i then [] else Ps k) n).Perm (flat (fun k=>if k=i then Q else Ps k) n):=by
 have h1:=flat_at (fun k=>if k=i then Q else Ps k) h
 simp only [if_true] at h1
 have e:(fun k=>if k=i then [] else (fun k=>if k=i then Q else Ps k) k)=fun k=>if k=i then [] else Ps k:=by
   funext k
   by_cases hk:k=i <;> simp [hk]
 rw [e] at h1
 exact h1.symm
end
end Go.Proofs.YtgfogfciobmmpaaGreatDoor
