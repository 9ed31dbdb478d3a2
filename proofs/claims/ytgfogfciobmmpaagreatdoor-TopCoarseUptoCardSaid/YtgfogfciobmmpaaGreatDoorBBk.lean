/- A part of the proof of a law of carouseltop: Wld. -/
import Derived.Test.YtgfogfciobmmpaaGreatDoorBBi
import Derived.Test.YtgfogfciobmmpaaGreatDoorBBj
set_option linter.unusedSimpArgs false
set_option linter.unusedVariables false
set_option maxRecDepth 100000
set_option maxHeartbeats 8000000
namespace Go.Proofs.YtgfogfciobmmpaaGreatDoor
open Go.RowKit
section
variable {w0:World}{X:List Nat}{Cs:List aw}{w:World}
theorem zL{α:Type}{l:List α}{i:Nat}{x e:α}(h:l[i]?=some x):l.getD i e=x:=by
 rw[List.getD_eq_getElem?_getD,h]
 rfl
structure TD where
 job:Option dY
 tx:Int
 stamp:Int
 no:Nat
structure WD where
 m:au
 th:List TD
 ev:List dh
 opened:Int
 steps:Int
def mT:cM->Option dY
 | .on j=>some j
 | .over=>none
def tJ(n:Nat):cM->Nat
 | .on _=>n
 | .over=>n+1
def me(c:cN):dY:=⟨cZ c.ring c.writes c.stamps c.multi,false,false,[]⟩
inductive nI(c:cN)(nj:Nat->Nat)(d:WD)(i:Int):aM->WD->Prop
 | out:(i<0\/(d.th.length:Int)<=i)->nI c nj d i db d
 | full {n:Nat} {t:TD}:i=n->d.th[n]?=some t->t.job=none->t.no=nj n->nI c nj d i db d
 | step {n:Nat} {t:TD} {j:dY} {a:aM} {new:List bM} {m':au} {nx:cM}:i=n->d.th[n]?=some t->t.no<nj n->(t.job=some j\/t.job=none/\j=me c)->gx c d.m j a new m' nx ->
   nI c nj d i a ⟨m',d.th.set n ⟨mT nx,(new.foldl eu ⟨d.opened,t.tx,t.stamp⟩).tx,(new.foldl eu ⟨d.opened,t.tx,t.stamp⟩).stamp,tJ t.no nx⟩,d.ev++dF d.steps i ⟨d.opened,t.tx,t.stamp⟩ new,(new.foldl eu ⟨d.opened,t.tx,t.stamp⟩).opened,d.steps+1⟩
structure WOk(c:cN)(d:WD):Prop where
 mem:aY d.m
 ring:d.m.ring=c.ring
 job:∀ t∈d.th,∀ j,t.job=some j->ix c j d.m
theorem tg{c:cN}{d:WD}(hc:co c)(h:WOk c d){t:TD}(ht:t∈d.th){j:dY}(hj:t.job=some j\/t.job=none/\j=me c):ix c j d.m:=by
 rcases hj with hj|⟨-,rfl⟩
 ·exact h.job t ht j hj
 ·exact zA hc h.ring
theorem uz{c:cN}{nj:Nat->Nat}{d d':WD}{i:Int}{a:aM}(hc:co c)(h:WOk c d)(hs:nI c nj d i a d') :
  WOk c d'/\d'.th.length=d.th.length/\∃ new:List bM,eG a new/\∃ s:BB,d'.ev=d.ev++dF d.steps i s new:=by
 cases hs with
 | out h1=>exact⟨h,rfl,[],fv (by decide) (by decide) rfl,⟨0,0,0⟩,by simp[dF]⟩
 | full h1 h2 h3 h4=>exact⟨h,rfl,[],fv (by decide) (by decide) rfl,⟨0,0,0⟩,by simp[dF]⟩
 | @step n t j a new m' nx h1 h2 h3 h4 h5 =>
  have hj:=tg hc h (List.mem_of_getElem? h2) h4
  obtain⟨k1,k2,k3,k4,k5⟩:=vJ hc h.mem hj h5
  refine⟨⟨k3,k4.trans h.ring,fun t' ht' j' hj'=>?_⟩,by simp,new,k1,⟨d.opened,t.tx,t.stamp⟩,rfl⟩
  rcases List.mem_or_eq_of_mem_set ht' with ht'|rfl
  ·exact(h.job t' ht' j' hj').mem k4 k5
  ·cases nx with
   | on j2 =>
    simp only[mT,Option.some.injEq]at hj'
    subst hj'
    exact k2
   | over=>simp[mT]at hj'
def JobP(x:Nat)(k:cl)(rv:Value)(hi:Int)(j:dY)(Rs:List aw):Prop :=
 ∃ f st cs ts F,PfOk f st cs ts j/\f.rv=rv/\((f.ask=.nilIface/\Rs=jC x k f st cs ts j.old j.tx F []) \/
  ∃ (K:iY) (pa:Nat) (am:K.S) (FA:List Nat),f.ask=.iface K.ty (ptr pa)/\jz K hi 40 am/\st.length<=30/\f.came=.heard/\Rs=jC x k f st cs ts j.old j.tx F [fV K pa am FA])
theorem tP{x:Nat}{k:cl}{f:PF}{st cs ts:List Int}{old:List bM}{t:bZ}{F:List Nat}(A B:List aw):jC x k f st cs ts old t F A++B=jC x k f st cs ts old t F (A++B):=by
 simp[jC,pC]
theorem CS{x:Nat}{k:cl}{rv:Value}{hi:Int}{j:dY}{Rs:List aw}{told:List bM}(h:JobP x k rv hi j Rs)(S:ah w0 X (Rs++Cs) w):aZ w0 X Cs x k rv hi told (.on j) w:=by
 obtain⟨f,st,cs,ts,F,h1,h2,⟨h3,rfl⟩|⟨K,pa,am,FA,h3,h4,h5,h6,rfl⟩⟩:=h
 ·rw[tP]at S
  exact⟨f,st,cs,ts,F,h1,h2,.inl ⟨h3,S⟩⟩
 ·rw[tP]at S
  exact⟨f,st,cs,ts,F,h1,h2,.inr ⟨K,pa,am,FA,h3,h4,h5,h6,S⟩⟩
theorem CB{x:Nat}{k:cl}{rv:Value}{hi:Int}{j:dY}{told:List bM}(h:aZ w0 X Cs x k rv hi told (.on j) w):∃ Rs,JobP x k rv hi j Rs/\ah w0 X (Rs++Cs) w:=by
 obtain⟨f,st,cs,ts,F,h1,h2,⟨h3,S⟩|⟨K,pa,am,FA,h3,h4,h5,h6,S⟩⟩:=h
 ·refine⟨_,⟨f,st,cs,ts,F,h1,h2,.inl ⟨h3,rfl⟩⟩,?_⟩
  rw[tP]
  exact S
 ·refine⟨_,⟨f,st,cs,ts,F,h1,h2,.inr ⟨K,pa,am,FA,h3,h4,h5,h6,rfl⟩⟩,?_⟩
  rw[tP]
  exact S
structure iE where
 wb:Nat
 mp:Nat
 tv:Value
 tbs:List Nat
 c:Plc.Cfg
 rs:List (Int×Int)
 rv:Value
 pv:Value
 progs:List ByteArray
 jvs:List Value
 jobs:List (List (Int×List Int×Value))
def iE.cfg(f:iE):cN:=⟨f.c.ring,f.c.writes,f.c.stamps,f.c.multi⟩
def iE.hi(f:iE):Int:=f.c.raw+Plc.sumSz f.rs f.rs.length
def iE.nj(f:iE)(i:Nat):Nat:=(f.jobs.getD i []).length
structure wX(w0:World)(X:List Nat)(f:iE):Prop where
 check:Plc.checkE f.c f.rs=0
 thr:∀ W,aQ X w0 W->aD W 60 1 f.tv f.tbs.length (f.tbs.map ptr)
 regs:∀ W,aQ X w0 W->aD W 90 2 f.rv f.rs.length (qr f.rs)
 progs:∀ W,aQ X w0 W->aD W 9 1 f.pv f.progs.length (f.progs.map .string)
 plen:∀ p∈f.progs,p.size<=512
 pnum:f.progs.length<=16
 tnum:f.tbs.length<=8
 jnum:f.jobs.length=f.tbs.length/\f.jvs.length=f.tbs.length
 jobs:∀ (i:Nat) (l:List (Int×List Int×Value)) (v:Value),f.jobs[i]?=some l->f.jvs[i]?=some v->l.length<=32/\∀ W,aQ X w0 W->aD W 68 2 v l.length (gN l)
 job:∀ l∈f.jobs,∀ j∈l,(0<=j.1/\j.1<f.progs.length)/\j.2.1.length<=4/\(∀ z∈j.2.1,aI z)/\∀ W,aQ X w0 W->aD W 2 1 j.2.2 j.2.1.length (bz j.2.1)
 tabled:Cod.Tabled w0
 low:0∉X
theorem zJ{c:Plc.Cfg}{rs:List (Int×Int)}(h:Plc.checkE c rs=0):1<=c.raw+Plc.sumSz rs rs.length/\c.raw+Plc.sumSz rs rs.length<=1024:=by
 have h1:=of_decide_eq_true (Plc.check_ok h)
 have h2:=Plc.sum_bd rs rs.length (Nat.le_refl _)
 omega
def iE.sw(f:iE)(ev:Value)(opened steps:Int):SW:=⟨f.c.raw,f.c.ring,f.c.writes,f.c.stamps,f.c.multi,f.c.tries,f.rv,f.pv,f.mp,f.tv,ev,opened,steps⟩
def DP(f:iE)(m:au)(N:Nat)(i:Nat)(t:TD)(Ps:List aw):Prop :=
 ∃ tb u ol Qs,f.tbs[i]?=some tb/\f.jvs[i]?=some u.jv/\Ps=ag tb (fD u)::aN 74 3 u.ov t.no ol::Qs/\u.tx=t.tx/\u.stamp=t.stamp/\(0<=u.steps/\u.steps<=N)/\(0<=u.waits/\u.waits<=N)/\t.no<=f.nj i /\
  match t.job with
  | none=>u.jp=.pointer none/\Qs=[]
  | some j=>t.no<f.nj i/\j.told.length<=N*300/\∃ x k rv Rs,u.jp=ptr x/\u.taken=(j.told.length:Nat)/\k.c=f.cfg/\KOk k f.hi/\k.cells<=m.cells.length/\Qs=cx rv k.regs::Rs/\JobP x k rv f.hi j Rs
def el(f:Nat->List aw):Nat->List aw
 | 0=>[]
 | n+1=>el f n++f n
def ke(w0:World)(X:List Nat)(f:iE)(Cs:List aw)(N:Nat)(d:WD)(w:World):Prop :=
 ∃ ev L F Ps,ah w0 X (aG f.mp d.m L F::ag f.wb (eH (f.sw ev d.opened d.steps))::bW ev d.ev::(el Ps f.tbs.length++Cs)) w/\d.th.length=f.tbs.length/\(d.m.cells.length:Int)=f.hi /\
  WOk f.cfg d/\(∀ i t,d.th[i]?=some t->DP f d.m N i t (Ps i))/\L<=N*100/\d.ev.length<=N*300/\(0<=d.opened/\d.opened<=N*300)/\(0<=d.steps/\d.steps<=N)
theorem pM(Ps:Nat->List aw){i:Nat}:∀ {n:Nat},i<n->(el Ps n).Perm (Ps i++el (fun k=>if k=i then []else Ps k) n)
 | n+1,h=>by
  by_cases e:i=n
  ·subst e
   have h2:∀ n,n<=i->el (fun k=>if k=i then []else Ps k) n=el Ps n:=by
    intro n
    induction n with
    | zero=>intro;rfl
    | succ n ih =>
     intro hn
     show el _ n++(if n=i then []else Ps n)=el Ps n++Ps n
     rw[if_neg (by omega),ih (by omega)]
   show(el Ps i++Ps i).Perm (Ps i++(el (fun k=>if k=i then []else Ps k) i++if i=i then []else Ps i))
   rw[if_pos rfl,List.append_nil,h2 i (Nat.le_refl _)]
   exact List.perm_append_comm
  ·have ih:=pM Ps (i:=i) (n:=n) (by omega)
   show(el Ps n++Ps n).Perm (Ps i++(el (fun k=>if k=i then []else Ps k) n++if n=i then []else Ps n))
   rw[if_neg (by omega),<-List.append_assoc]
   exact List.Perm.append_right _ ih
theorem C8(Ps:Nat->List aw){i n:Nat}(h:i<n)(Q:List aw):(Q++el (fun k=>if k=i then []else Ps k) n).Perm (el (fun k=>if k=i then Q else Ps k) n):=by
 have h1:=pM (fun k=>if k=i then Q else Ps k) h
 simp only[if_true]at h1
 have e:(fun k=>if k=i then []else(fun k=>if k=i then Q else Ps k) k)=fun k=>if k=i then []else Ps k:=by
  funext k
  by_cases hk:k=i<;>simp[hk]
 rw[e]at h1
 exact h1.symm
end
end Go.Proofs.YtgfogfciobmmpaaGreatDoor
