/- A part of the proof of a law of carouseltop: WStp Begun WEv RowB WhyS Play EvS. -/
import Derived.Test.YtgfogfciobmmpaaGreatDoorBBl
import Derived.Test.YtgfogfciobmmpaaGreatDoorBBm
import Derived.Test.YtgfogfciobmmpaaGreatDoorCards
import Derived.Test.YtgfogfciobmmpaaGreatDoorTie
import Derived.ProofKit
import Derived.LaidMore
import Derived.OpenShut
import Derived.SizedLaws
import Derived.Deep.DeepHandedRow
import Derived.SevenTiedAt
import Derived.Deep.CutRange
set_option linter.unusedSimpArgs false
set_option linter.unusedVariables false
set_option maxRecDepth 100000
set_option maxHeartbeats 8000000
namespace Go.Proofs.YtgfogfciobmmpaaGreatDoor
open Go.RowKit
section
set_option maxRecDepth 10000
variable {w0:World}{X:List Nat}{Cs:List aw}{w:World}{f:iE}{N:Nat}{d:WD}
theorem BZ{a b c:aw}{Ps:Nat->List aw}{n i:Nat}(hi:i<n)(S:ah w0 X (a::b::c::(el Ps n++Cs)) w):ah w0 X (a::b::c::(Ps i++(el (fun k=>if k=i then []else Ps k) n++Cs))) w:=by
 refine S.perm (List.Perm.cons _ (List.Perm.cons _ (List.Perm.cons _ ?_)))
 rw[<-List.append_assoc]
 exact List.Perm.append_right Cs (pM Ps hi)
theorem uD{a b c:aw}{Ps:Nat->List aw}{n i:Nat}(hi:i<n){Q:List aw}(S:ah w0 X (a::b::c::(Q++(el (fun k=>if k=i then []else Ps k) n++Cs))) w):ah w0 X (a::b::c::(el (fun k=>if k=i then Q else Ps k) n++Cs)) w:=by
 refine S.perm (List.Perm.cons _ (List.Perm.cons _ (List.Perm.cons _ ?_)))
 rw[<-List.append_assoc]
 exact List.Perm.append_right Cs (C8 Ps hi Q)
theorem DP.mono{m m':au}{i:Nat}{t:TD}{Ps:List aw}(h:DP f m N i t Ps)(hm:m'.cells.length=m.cells.length):DP f m' (N+1) i t Ps:=by
 obtain⟨tb,u,ol,Qs,h1,h2,h3,h4,h5,h6,h7,h8,h9⟩:=h
 refine⟨tb,u,ol,Qs,h1,h2,h3,h4,h5,by omega,by omega,h8,?_⟩
 cases hj:t.job with
 | none=>rw[hj]at h9;exact h9
 | some j =>
  rw[hj]at h9
  obtain⟨k1,k2,x,k,rv,Rs,k3,k4,k5,k6,k7,k8,k9⟩:=h9
  exact⟨k1,by omega,x,k,rv,Rs,k3,k4,k5,k6,by rw[hm];exact k7,k8,k9⟩
theorem Co{a b c p q r:aw}{Rs Rest:List aw}(S:ah w0 X (a::b::c::((p::q::r::Rs)++Rest)) w):ah w0 X (Rs++(a::r::b::c::p::q::Rest)) w:=by
 have S1:ah w0 X (a::b::c::p::q::r::(Rs++Rest)) w:=S
 have S2:ah w0 X (r::a::b::c::p::q::(Rs++Rest)) w:=ah.pull [a,b,c,p,q] S1
 exact ah.perm S2.sw (List.perm_append_comm_assoc [a,r,b,c,p,q] Rs Rest)
theorem Cn{a b c p q r:aw}{Rs Rest:List aw}(S:ah w0 X (Rs++(a::r::b::c::p::q::Rest)) w):ah w0 X (a::b::c::((p::q::r::Rs)++Rest)) w:=by
 have S1:ah w0 X (a::r::b::c::p::q::(Rs++Rest)) w:=S.perm (List.perm_append_comm_assoc Rs [a,r,b,c,p,q] Rest)
 have S2:ah w0 X (a::b::c::p::q::r::(Rs++Rest)) w:=ah.push [a,b,c,p,q] S1.sw
 exact S2
theorem uE{i:Nat}{s:SW}{u:ST}{t:TD}{tb:Nat}{ol:List Value}{ev:Value}{x L:Nat}{k:cl}{rv:Value}{j:dY}{Ps:Nat->List aw}{e:Ending}{w':World}
  (hf:wX w0 X f) (hok:WOk f.cfg d) (hthl:d.th.length=f.tbs.length) (hcells:(d.m.cells.length:Int)=f.hi) (hrest:∀ n t,d.th[n]?=some t->DP f d.m N n t (Ps n)) (hL:L<=N*100) (hev:d.ev.length<=N*300) (hop:0<=d.opened/\d.opened<=N*300) (hst:0<=d.steps/\d.steps<=N)
  (hs:s=f.sw ev d.opened d.steps) (ht:d.th[i]?=some t) (htb:f.tbs[i]?=some tb) (hjv:f.jvs[i]?=some u.jv) (htx:u.tx=t.tx) (hstamp:u.stamp=t.stamp) (hus:0<=u.steps/\u.steps<=N) (huw:0<=u.waits/\u.waits<=N) (hno:t.no<f.nj i)
  (hj:t.job=some j\/t.job=none/\j=me f.cfg) (hjl:j.told.length<=N*300) (hkc:k.c=f.cfg) (hk:KOk k f.hi) (hkl:k.cells<=d.m.cells.length)
  (h:pT w0 X (el (fun k=>if k=i then []else Ps k) f.tbs.length++Cs) f.wb tb s u d.ev t.no ol x k rv f.hi j d.m L (i:Int) e w') :
  ∃ a d',e=.returned a.val/\nI f.cfg f.nj d (i:Int) a d'/\ke w0 X f Cs (N+1) d' w':=by
 subst hs
 have hcf:co f.cfg:=hkc▸hk.cfg
 obtain⟨a,new,m',nx,F2,L',ev',u',hL',rfl,hstep,hjv',htx',hstamp',hus',huw',hnx⟩:=h
 have hil:i<f.tbs.length:=(List.getElem?_eq_some_iff.1 htb).1
 have hjo:=tg hcf hok (List.mem_of_getElem? ht) hj
 rw[hkc]at hstep
 have hlen:=oD hcf hok.mem hjo hstep
 have hW:nI f.cfg f.nj d (i:Int) a _:=.step (n:=i) rfl ht hno hj hstep
 obtain⟨hok',hthl',-,-⟩:=uz hcf hok hW
 obtain⟨-,-,-,-,hml⟩:=vJ hcf hok.mem hjo hstep
 obtain⟨ho1,ho2⟩:=nW new ⟨d.opened,t.tx,t.stamp⟩
 dsimp only at ho1 ho2
 rw[show(f.sw ev d.opened d.steps).opened=d.opened from rfl,htx,hstamp]at htx' hstamp'
 rw[show(f.sw ev d.opened d.steps).opened=d.opened from rfl,show(f.sw ev d.opened d.steps).steps=d.steps from rfl,show(f.sw ev d.opened d.steps).mp=f.mp from rfl,htx,hstamp]at hnx
 refine⟨a,_,rfl,hW,?_⟩
 have hset:∀ n t2,(d.th.set i ⟨mT nx,(new.foldl eu ⟨d.opened,t.tx,t.stamp⟩).tx,(new.foldl eu ⟨d.opened,t.tx,t.stamp⟩).stamp,tJ t.no nx⟩)[n]?=some t2->(n=i/\t2=⟨mT nx,(new.foldl eu ⟨d.opened,t.tx,t.stamp⟩).tx,(new.foldl eu ⟨d.opened,t.tx,t.stamp⟩).stamp,tJ t.no nx⟩)\/(n≠i/\d.th[n]?=some t2):=by
  intro n t2 hn
  rw[List.getElem?_set]at hn
  by_cases e:i=n
  ·subst e
   rw[if_pos rfl]at hn
   split at hn
   ·left
    injection hn with hn
    exact⟨rfl,hn.symm⟩
   ·simp at hn
  ·rw[if_neg e]at hn
   exact .inr ⟨fun h=>e h.symm,hn⟩
 have hthl2:(d.th.set i ⟨mT nx,(new.foldl eu ⟨d.opened,t.tx,t.stamp⟩).tx,(new.foldl eu ⟨d.opened,t.tx,t.stamp⟩).stamp,tJ t.no nx⟩).length=f.tbs.length:=by simp[hthl]
 have hevl:(d.ev++dF d.steps (i:Int) ⟨d.opened,t.tx,t.stamp⟩ new).length<=(N+1)*300:=by
  rw[List.length_append,nX]
  omega
 cases nx with
 | on j' =>
  obtain⟨hjp,htk,hJ⟩:=hnx
  obtain⟨Rs,hR,S⟩:=CB hJ
  have S2:=uD hil (Cn S)
  refine⟨ev',L',F2,_,S2,hthl2,by dsimp only;rw[hml];exact hcells,hok',fun n t2 hn=>?_,by omega,hevl,by dsimp only;omega,by dsimp only;omega⟩
  rcases hset n t2 hn with⟨rfl,rfl⟩|⟨hne,hn⟩
  ·rw[if_pos rfl]
   refine⟨tb,u',ol,_,htb,by rw[hjv'];exact hjv,rfl,htx',hstamp',by omega,by omega,Nat.le_of_lt hno,?_⟩
   refine⟨hno,?_,x,k,rv,Rs,hjp,htk,hkc,hk,by dsimp only;rw[hml];exact hkl,rfl,hR⟩
   rw[fz hstep,List.length_append]
   omega
  ·rw[if_neg hne]
   exact(hrest n t2 hn).mono hml
 | over =>
  obtain⟨hjp,ol',S⟩:=hnx
  have S1:ah w0 X (aG f.mp m' L' F2::ag f.wb (eH (f.sw ev' (new.foldl eu ⟨d.opened,t.tx,t.stamp⟩).opened (d.steps+1)))::bW ev' (d.ev++dF d.steps (i:Int) ⟨d.opened,t.tx,t.stamp⟩ new)::([ag tb (fD u'),aN 74 3 u'.ov (t.no+1) ol']++(el (fun k=>if k=i then []else Ps k) f.tbs.length++Cs))) w':=S
  have S2:=uD hil S1
  refine⟨ev',L',F2,_,S2,hthl2,by dsimp only;rw[hml];exact hcells,hok',fun n t2 hn=>?_,by omega,hevl,by dsimp only;omega,by dsimp only;omega⟩
  rcases hset n t2 hn with⟨rfl,rfl⟩|⟨hne,hn⟩
  ·rw[if_pos rfl]
   exact⟨tb,u',ol',[],htb,by rw[hjv'];exact hjv,rfl,htx',hstamp',by omega,by omega,hno,hjp,rfl⟩
  ·rw[if_neg hne]
   exact(hrest n t2 hn).mono hml
theorem DK(hf:wX w0 X f)(h:ke w0 X f Cs N d w)(hN:N<=1048576)(i:Int) :
  Calls Tryz.prog 7 #[ptr f.wb,.int .i64 i] w (fun e w'=>∃ a d',e=.returned a.val/\nI f.cfg f.nj d i a d'/\ke w0 X f Cs (N+1) d' w'):=by
 obtain⟨ev,L,F,Ps,S,hthl,hcells,hok,hthr,hL,hev,hop,hst⟩:=h
 have hkk:=yf (code:=.empty) (xs:=[]) hf.check (by decide) (by decide) (fun _ h=>nomatch h)
 have hcf:co f.cfg:=hkk.cfg
 have hhi:f.hi<=1024:=(zJ hf.check).2
 have hsame:∀ w',ah w0 X (aG f.mp d.m L F::ag f.wb (eH (f.sw ev d.opened d.steps))::bW ev d.ev::(el Ps f.tbs.length++Cs)) w'->ke w0 X f Cs (N+1) d w':=fun w' S' =>
  ⟨ev,L,F,Ps,S',hthl,hcells,hok,fun n t hn=>(hthr n t hn).mono rfl,by omega,by omega,by omega,by omega⟩
 by_cases hi:i<0\/(f.tbs.length:Int)<=i
 ·refine(Sch_out (S.pull [_]) (s:=f.sw ev d.opened d.steps) hf.thr i hi).mono ?_
  rintro e w' ⟨rfl,S'⟩
  exact⟨db,d,rfl,.out (by rw[hthl];exact hi),hsame w' S'.sw⟩
 ·obtain⟨n,rfl⟩:∃ n:Nat,i=n:=⟨i.toNat,by omega⟩
  have hn:n<f.tbs.length:=by omega
  obtain⟨t,ht⟩:∃ t,d.th[n]?=some t:=⟨d.th[n]'(by omega),List.getElem?_eq_getElem _⟩
  obtain⟨tb,u,ol,Qs,h1,h2,h3,h4,h5,h6,h7,h8,h9⟩:=hthr n t ht
  obtain⟨jl,hjl⟩:∃ jl,f.jobs[n]?=some jl:=⟨f.jobs[n]'(by have:=hf.jnum;omega),List.getElem?_eq_getElem _⟩
  have hnj:f.nj n=jl.length:=by unfold iE.nj;rw[zL hjl]
  obtain⟨hj32,hjrow⟩:=hf.jobs n jl u.jv hjl h2
  have S1:=BZ hn S
  rw[h3]at S1
  have hpost:∀ e w',(∃ j x k rv,(t.job=some j\/t.job=none/\j=me f.cfg)/\j.told.length<=N*300/\k.c=f.cfg/\KOk k f.hi/\k.cells<=d.m.cells.length/\∃ u2:ST,u2.jv=u.jv/\u2.tx=u.tx/\u2.stamp=u.stamp/\u2.steps=u.steps/\u2.waits=u.waits /\
    pT w0 X (el (fun k=>if k=n then []else Ps k) f.tbs.length++Cs) f.wb tb (f.sw ev d.opened d.steps) u2 d.ev t.no ol x k rv f.hi j d.m L (n:Int) e w')->t.no<f.nj n->∃ a d',e=.returned a.val/\nI f.cfg f.nj d (n:Int) a d'/\ke w0 X f Cs (N+1) d' w':=by
   intro e w' hj hno
   obtain⟨j,x,k,rv,q1,q2,q3,q4,q5,u2,r1,r2,r3,r4,r5,hp⟩:=hj
   exact uE hf hok hthl hcells hthr hL hev hop hst rfl ht h1 (by rw[r1];exact h2) (r2.trans h4) (r3.trans h5) (by rw[r4];exact h6) (by rw[r5];exact h7) hno q1 q2 q3 q4 q5 hp
  by_cases hfull:t.no=f.nj n
  ·have hnone:t.job=none:=by
    cases hj:t.job with
    | none=>rfl
    | some j =>
     rw[hj]at h9
     have:=h9.1
     omega
   obtain⟨ja,jc,hjv,-,-⟩:=(hjrow w S.kept).slice
   have S2:ah w0 X (aG f.mp d.m L F::ag f.wb (eH (f.sw ev d.opened d.steps))::bW ev d.ev::ag tb (fD u)::aN 74 3 u.ov t.no ol::(Qs++(el (fun k=>if k=n then []else Ps k) f.tbs.length++Cs))) w:=S1
   have S3:ah w0 X (ag tb (fD u)::aG f.mp d.m L F::ag f.wb (eH (f.sw ev d.opened d.steps))::bW ev d.ev::aN 74 3 u.ov t.no ol::(Qs++(el (fun k=>if k=n then []else Ps k) f.tbs.length++Cs))) w:=ah.pull [aG f.mp d.m L F,ag f.wb (eH (f.sw ev d.opened d.steps)),bW ev d.ev] S2
   have S3':ah w0 X (ag f.wb (eH (f.sw ev d.opened d.steps))::ag tb (fD u)::aG f.mp d.m L F::bW ev d.ev::aN 74 3 u.ov t.no ol::(Qs++(el (fun k=>if k=n then []else Ps k) f.tbs.length++Cs))) w:=ah.pull [ag tb (fD u),aG f.mp d.m L F] S3
   obtain⟨oa,oc,hov,-,-⟩:=(show aD w _ 3 u.ov t.no ol from(S2.pull [_,_,_,_]).h0).slice
   refine(DW (s:=f.sw ev d.opened d.steps) S3' hf.thr hn h1 (n:=t.no) ⟨ja,jc,by rw[hjv,hfull,hnj]⟩ ⟨oa,oc,hov⟩).mono ?_
   rintro e w' ⟨rfl,S'⟩
   refine⟨db,d,rfl,.full rfl ht hnone hfull,hsame w' ?_⟩
   have S4:ah w0 X (ag tb (fD u)::aG f.mp d.m L F::ag f.wb (eH (f.sw ev d.opened d.steps))::bW ev d.ev::aN 74 3 u.ov t.no ol::(Qs++(el (fun k=>if k=n then []else Ps k) f.tbs.length++Cs))) w':=ah.push [ag tb (fD u),aG f.mp d.m L F] S'
   have S5:ah w0 X (aG f.mp d.m L F::ag f.wb (eH (f.sw ev d.opened d.steps))::bW ev d.ev::((ag tb (fD u)::aN 74 3 u.ov t.no ol::Qs)++(el (fun k=>if k=n then []else Ps k) f.tbs.length++Cs))) w':=ah.push [aG f.mp d.m L F,ag f.wb (eH (f.sw ev d.opened d.steps)),bW ev d.ev] S4
   rw[<-h3]at S5
   exact S5.perm (List.Perm.cons _ (List.Perm.cons _ (List.Perm.cons _ (by rw[<-List.append_assoc];exact(List.Perm.append_right Cs (pM Ps hn)).symm))))
  ·have hno:t.no<f.nj n:=by omega
   obtain⟨ja,jc,hjv,-,-⟩:=(hjrow w S.kept).slice
   cases hj:t.job with
   | some j =>
    rw[hj]at h9
    obtain⟨k1,k2,x,k,rv,Rs,k3,k4,k5,k6,k7,rfl,k9⟩:=h9
    have HJ:=CS (told:=j.told) k9 (Co S1)
    refine(Step_on (s:=f.sw ev d.opened d.steps) HJ (k5▸hok.job t (List.mem_of_getElem? ht) j hj) k6 hf.tabled hf.low k7 ⟨by omega,hhi⟩ (by omega) (by omega) (by omega) (by omega) k3 k4 ⟨ja,jc,hjv⟩ (by omega) hf.thr hn h1 ⟨⟨by exact hop.1,by show d.opened<=_;omega⟩,⟨hst.1,by show d.steps<=_;omega⟩,⟨by omega,by omega⟩,⟨by omega,by omega⟩⟩).mono ?_
    intro e w' hp
    exact hpost e w' ⟨j,x,k,rv,.inl hj,k2,k5,k6,k7,u,rfl,rfl,rfl,rfl,rfl,hp⟩ hno
   | none =>
    rw[hj]at h9
    obtain⟨k1,rfl⟩:=h9
    have S2:ah w0 X (aG f.mp d.m L F::ag f.wb (eH (f.sw ev d.opened d.steps))::bW ev d.ev::ag tb (fD u)::aN 74 3 u.ov t.no ol::(el (fun k=>if k=n then []else Ps k) f.tbs.length++Cs)) w:=S1
    refine(DR (s:=f.sw ev d.opened d.steps) hf S2 rfl hok.mem hok.ring hcells (by omega) (by omega) (by omega) k1 h2 hjl (by omega) h1 ⟨⟨hop.1,by show d.opened<=_;omega⟩,⟨hst.1,by show d.steps<=_;omega⟩,⟨by omega,by omega⟩,⟨by omega,by omega⟩⟩).mono ?_
    rintro e w' ⟨x,k,rv,u2,q1,q2,q3,q4,q5,q6,q7,q8,hp⟩
    exact hpost e w' ⟨me f.cfg,x,k,rv,.inr ⟨hj,rfl⟩,by simp[me,dY.told,cZ],q1,q2,q3,u2,q4,q5,q6,q7,q8,hp⟩ hno
end
section
variable {w0:World}{X:List Nat}{Cs:List aw}{w:World}
theorem tj(np:Nat)(l:List (Int×List Int×Value)):ki np l=(decide ((ba l).length<=32)&&(ba l).all (fun x=>decide (0<=x.1/\x.1<np/\x.2.length<=4))):=by
 unfold ki ba
 rw[List.length_map,List.all_map]
 rfl
theorem vz{s s':cQ}(h:sY s s'):fl s'.progs s'.tl=fl s.progs s.tl:=by
 have hl:s'.tl.length=s.tl.length:=by
  have:=congrArg List.length h.tl
  simpa using this
 have ha:∀ tl:List (Value×List (Int×List Int×Value)),tl.all (fun t=>ki s.progs.length t.2)=(tl.map (fun t=>ba t.2)).all (fun l=>decide (l.length<=32)&&l.all (fun x=>decide (0<=x.1/\x.1<s.progs.length/\x.2.length<=4))):=fun tl=>by
  rw[List.all_map]
  congr 1
  funext t
  exact tj _ _
 unfold fl
 rw[h.progs,hl,ha,ha,h.tl]
theorem zt{s:cQ}:jn s=0↔Plc.checkE s.c s.rs=0/\fl s.progs s.tl=true:=by
 unfold jn
 by_cases h:Plc.checkE s.c s.rs=0
 ·rw[if_pos h]
  by_cases h2:fl s.progs s.tl=true
  ·rw[if_pos h2];simp[h,h2]
  ·rw[if_neg h2];simp[h2]
 ·rw[if_neg h];simp[h]
def m0(s:cQ):au:=gL (s.c.raw+Plc.sumSz s.rs s.rs.length).toNat s.c.ring.toNat
structure jZ(w:World)(s:cQ)(f:iE)(X':List Nat)(w':World):Prop where
 below:Below w.heap.size w w'
 new:∀ x∈X',w.heap.size<=x
 fix:wX w' X' f
 c:f.c=s.c
 rs:f.rs=s.rs
 at_:ke w' X' f [] 0 (xd (m0 s) f.tbs.length) w'
open Classical in
theorem DD{w w2 w':World}{s s':cQ}{p wb:Nat}{tv rv' pv':Value}{l:List jy}{FF:List Nat}(hb2:Below w.heap.size w w2)(hw:0<w.heap.size)(ht:Cod.Tabled w)(hsame:sY s s')(hs':cP w2 w2.heap.size s')(hE:Plc.checkE s.c s.rs=0)(hm:fl s.progs s.tl=true)
  (hl:l.map (fun t=>ba t.jl)=s'.tl.map (fun t=>ba t.2))
  (S:ah w2 [] (ag wb (eH (zm s' p rv' pv' tv))::aN 60 1 tv l.length (l.map fun t=>ptr t.tb)::aG p (gL (s'.c.raw+Plc.sumSz s'.rs s'.rs.length).toNat s'.c.ring.toNat) 0 FF::aN 90 2 rv' s'.rs.length (qr s'.rs)::aN 9 1 pv' s'.progs.length (s'.progs.map .string)::(l.flatMap py++l.flatMap rI)) w') :
  ∃ f X',f.wb=wb/\jZ w s f X' w':=by
 obtain⟨⟨hm1,hm2⟩,hm3,hm4⟩:=CL hm
 obtain⟨hi1,hi2⟩:=zJ hE
 obtain⟨b1,b2,b3,b4,b5,b6,b7,b8,b9,b10,b11⟩:=of_decide_eq_true (Plc.check_ok hE)
 have hlen:l.length=s.tl.length:=by
  have h1:=congrArg List.length hl
  have h2:=congrArg List.length hsame.tl
  simp at h1 h2
  omega
 have hmem:∀ t∈l,∃ t1∈s'.tl,ba t.jl=ba t1.2:=fun t ht=>by
  have h1:ba t.jl∈l.map (fun t=>ba t.jl):=List.mem_map.2 ⟨t,ht,rfl⟩
  rw[hl]at h1
  obtain⟨t1,h2,h3⟩:=List.mem_map.1 h1
  exact⟨t1,h2,h3.symm⟩
 rw[hsame.c,hsame.rs,hsame.progs]at S
 have e1:zm s' p rv' pv' tv=zm s p rv' pv' tv:=by unfold zm;rw[hsame.c]
 rw[e1]at S
 have S1:=S.nilRow 44 19
 have S2:ah w2 [] ((aG p (m0 s) 0 FF::ag wb (eH ((fI wb p tv s.c s.rs rv' pv' s.progs l).sw (.slice none 0 0) 0 0))::bW (.slice none 0 0) []::l.flatMap py) ++
   (aN 60 1 tv l.length (l.map fun t=>ptr t.tb)::aN 90 2 rv' s.rs.length (qr s.rs)::aN 9 1 pv' s.progs.length (s.progs.map .string)::l.flatMap rI)) w':=by
  refine ah.perm S1 (qz fun a=>?_)
  show List.count a (bW (.slice none 0 0) []::ag wb (eH ((fI wb p tv s.c s.rs rv' pv' s.progs l).sw (.slice none 0 0) 0 0))::_::aG p (m0 s) 0 FF::_::_::_)=_
  simp only[List.count_cons,List.count_append]
  omega
 obtain⟨X',hX,hfix,hat⟩:=Ag S2 (Nat.lt_of_lt_of_le hw hb2.size) hE hm3 hm2 (by omega) (fun t ht=>by
   obtain⟨t1,h1,h2⟩:=hmem t ht
   obtain⟨t0,h3,h4⟩:=oe hsame.tl h1
   have:=(hm4 t0 h3).1
   have e1:=og h2
   have e2:=og h4
   omega) (fun t ht j hj=>by
   obtain⟨t1,h1,h2⟩:=hmem t ht
   obtain⟨j1,hj1,q1,q2⟩:=oh h2 hj
   obtain⟨-,hj',-⟩:=hs'.each t1 h1
   obtain⟨-,k2,-,-⟩:=hj' j1 hj1
   obtain⟨t0,h3,h4⟩:=oe hsame.tl h1
   obtain⟨j0,hj0,r1,r2⟩:=oh h4 hj1
   obtain⟨z1,z2,z3⟩:=(hm4 t0 h3).2 j0 hj0
   rw[<-q1,<-q2,<-r1]
   refine⟨⟨z1,z2⟩,by rw[<-r2];exact z3,k2⟩) (ht.below hw hb2) (by
   show(gL _ _).ring=_
   unfold gL au.ring
   simp
   omega) (by
   unfold m0 gL
   simp
   omega)
 refine⟨_,X',rfl,⟨?_,fun x hx=>Nat.le_trans hb2.size (hX x hx),hfix,rfl,rfl,?_⟩⟩
 ·exact hb2.trans (S2.kept.below.mono hb2.size)
 ·have e:(fI wb p tv s.c s.rs rv' pv' s.progs l).tbs.length=l.length:=by simp[fI]
  rw[e]
  exact hat
theorem wG(w:World)(s:cQ)(hs:cP w w.heap.size s)(E:Int)(hE:jn s=E)(hE0:E≠0)(HNEW:Hid (∀ w2 s',sY s s'->cP w2 w2.heap.size s'->uo s'->Calls Tryz.prog 15 #[s'.val] w2 (D1 E w2))) :
  Calls Tryz.prog 6 #[s.val] w (fun e w'=>e=.returned (.tuple #[.pointer none,.bool true])/\Below w.heap.size w w'):=by
 have HCO:=kH (fun o=>nA (w.alloc o) s ((hs.below (ai w o)).up (by simp)))
 have HRF:=kH (fun(W:World) (hb:Below w.heap.size w W)=>lU W s ((hs.below hb).up hb.size))
 rw[hE]at HRF
 obtain⟨c,rv,rs,pv,progs,tv,tl⟩:=s
 unfold cQ.val at HCO HRF ⊢
 dsimp only at HCO HRF ⊢
 have hE0':(E == 0)=false:=by simp[hE0]
 clear hs hE hE0
 go_enter Tryz.func6,Tryz.ntmps6
 go_wp2_with fail
 refine(HCO.out _).mono ?_
 rintro e2 w2 ⟨s',rfl,hsame,hset,hpl,hb2⟩
 have HNW:=kH (HNEW.out w2 s' hsame hset hpl)
 unfold cQ.val at HNW
 dsimp only
 have hbw2:Below w.heap.size w w2:=(ai w _).trans (hb2.mono (by simp))
 have hC2:=fe hb2 (aj (w:=w) rfl)
 clear HCO HNEW
 go_wp2_with fail
 refine HNW.out.mono ?_
 rintro e3 w3 ⟨rfl,hb3⟩
 have hC:=fe hb3 hC2
 have q0:=cell_of_row w3 w.heap.size 0 _ _ _ hC
 have q1:=cell_of_row w3 w.heap.size 1 _ _ _ hC
 have q2:=cell_of_row w3 w.heap.size 2 _ _ _ hC
 have q3:=cell_of_row w3 w.heap.size 3 _ _ _ hC
 have q4:=cell_of_row w3 w.heap.size 4 _ _ _ hC
 have q5:=cell_of_row w3 w.heap.size 5 _ _ _ hC
 have q6:=cell_of_row w3 w.heap.size 6 _ _ _ hC
 have q7:=cell_of_row w3 w.heap.size 7 _ _ _ hC
 have q8:=cell_of_row w3 w.heap.size 8 _ _ _ hC
 simp only[gA,gZ,gS]at q0 q1 q2 q3 q4 q5 q6 q7 q8
 have hlt:=af hC
 have HB:=kH (hbw2.trans (hb3.mono hbw2.size))
 clear hC hC2 hb3 hb2 hbw2 HNW hsame hset hpl
 go_wp2_with fail
 refine(HRF.out _ HB.out).mono ?_
 rintro e4 w4 ⟨rfl,hb4⟩
 go_wp2
 go_ret2
 exact⟨rfl,HB.out.trans (hb4.mono HB.out.size)⟩
theorem Bm(w:World)(s:cQ)(hs:cP w w.heap.size s)(ht:Cod.Tabled w)(hE:Plc.checkE s.c s.rs=0)(hm:fl s.progs s.tl=true) :
  Calls Tryz.prog 6 #[s.val] w (fun e w'=>∃ f X',e=.returned (.tuple #[ptr f.wb,.bool true])/\jZ w s f X' w'):=by
 have hR:jn s=0:=zt.2 ⟨hE,hm⟩
 have hw:0<w.heap.size:=ht.1
 have HNEW:Hid (∀ w2 s',sY s s'->cP w2 w2.heap.size s'->uo s'->Calls Tryz.prog 15 #[s'.val] w2 (rq w2 s')):=fun w2 s' h1 h2 h3=>D0 w2 s' h2 h3 (by rw[h1.c,h1.rs];exact hE) (by rw[vz h1];exact hm)
 have HOF:=kH (fun(w2 w':World) (s':cQ) (p wb:Nat) (tv rv' pv':Value) (l:List jy) (FF:List Nat) (h1:Below w.heap.size w w2) (h2:sY s s') (h3:cP w2 w2.heap.size s') hl S=>DD (w:=w) (w2:=w2) (w':=w') (s:=s) (s':=s') (p:=p) (wb:=wb) (tv:=tv) (rv':=rv') (pv':=pv') (l:=l) (FF:=FF) h1 hw ht h2 h3 hE hm hl S)
 have HCO:=kH (fun o=>nA (w.alloc o) s ((hs.below (ai w o)).up (by simp)))
 have HRF:=kH (fun(W:World) (hb:Below w.heap.size w W)=>lU W s ((hs.below hb).up hb.size))
 rw[hR]at HRF
 obtain⟨c,rv,rs,pv,progs,tv,tl⟩:=s
 unfold cQ.val at HCO HRF ⊢
 dsimp only at HCO HRF ⊢
 clear hs hE hR ht hm
 go_enter Tryz.func6,Tryz.ntmps6
 go_wp2_with fail
 refine(HCO.out _).mono ?_
 rintro e2 w2 ⟨s',rfl,hsame,hset,hpl,hb2⟩
 have HNW:=kH (HNEW.out w2 s' hsame hset hpl)
 unfold cQ.val at HNW
 dsimp only
 have hbw2:Below w.heap.size w w2:=(ai w _).trans (hb2.mono (by simp))
 have hC2:=fe hb2 (aj (w:=w) rfl)
 clear HCO HNEW
 go_wp2_with fail
 refine HNW.out.mono ?_
 rintro e3 w3 ⟨p,wb,tv',rv',pv',l,FF,rfl,hl,S⟩
 have hb3:=S.kept.below
 have hC:=fe hb3 hC2
 have q0:=cell_of_row w3 w.heap.size 0 _ _ _ hC
 have q1:=cell_of_row w3 w.heap.size 1 _ _ _ hC
 have q2:=cell_of_row w3 w.heap.size 2 _ _ _ hC
 have q3:=cell_of_row w3 w.heap.size 3 _ _ _ hC
 have q4:=cell_of_row w3 w.heap.size 4 _ _ _ hC
 have q5:=cell_of_row w3 w.heap.size 5 _ _ _ hC
 have q6:=cell_of_row w3 w.heap.size 6 _ _ _ hC
 have q7:=cell_of_row w3 w.heap.size 7 _ _ _ hC
 have q8:=cell_of_row w3 w.heap.size 8 _ _ _ hC
 simp only[gA,gZ,gS]at q0 q1 q2 q3 q4 q5 q6 q7 q8
 have hlt:=af hC
 have HB:=kH (hbw2.trans (hb3.mono hbw2.size))
 have HMK:=kH (fun(w':World) (hb:Below w3.heap.size w3 w')=>HOF.out w2 w' s' p wb tv' rv' pv' l FF hbw2 hsame hset hl (S.below hb))
 clear hC hC2 hb3 hb2 hbw2 HNW hsame hset hpl S hl HOF
 unfold ptr
 go_wp2_with fail
 refine(HRF.out _ HB.out).mono ?_
 rintro e4 w4 ⟨rfl,hb4⟩
 obtain⟨f,X',hf,hbeg⟩:=HMK.out _ hb4
 go_wp2
 go_ret2
 refine⟨f,X',?_,hbeg⟩
 rw[hf]
 rfl
def BegPost(w:World)(s:cQ)(e:Ending)(w':World):Prop:=(jn s≠0/\e=.returned (.tuple #[.pointer none,.bool true])/\Below w.heap.size w w')\/(jn s=0/\∃ f X',e=.returned (.tuple #[ptr f.wb,.bool true])/\jZ w s f X' w')
theorem pi(w:World)(s:cQ)(hs:cP w w.heap.size s)(ht:Cod.Tabled w):Calls Tryz.prog 6 #[s.val] w (BegPost w s):=by
 by_cases hE:Plc.checkE s.c s.rs=0
 ·by_cases hm:fl s.progs s.tl=true
  ·refine(Bm w s hs ht hE hm).mono ?_
   rintro e w' h
   exact .inr ⟨zt.2 ⟨hE,hm⟩,h⟩
  ·have h1:jn s=1:=by unfold jn;rw[if_pos hE,if_neg hm]
   refine(wG w s hs 1 h1 (by decide) (fun w2 s' k1 k2 k3=>New_may w2 s' k2 (by rw[k1.c,k1.rs];exact hE) (by rw[vz k1];simpa using hm))).mono ?_
   rintro e w' h
   exact .inl ⟨by rw[h1];decide,h⟩
 ·have h1:jn s=Plc.checkE s.c s.rs:=by unfold jn;rw[if_neg hE]
  refine(wG w s hs _ h1 hE (fun w2 s' k1 k2 k3=>by
   have h:=yZ w2 s' k2 (by rw[k1.c,k1.rs];exact hE)
   rw[k1.c,k1.rs]at h
   exact h)).mono ?_
  rintro e w' h
  exact .inl ⟨by rw[h1];exact hE,h⟩
end
section
variable {w0:World}{X:List Nat}{Cs Cs':List aw}{w w':World}{f:iE}{N:Nat}{d:WD}
theorem ke.sub(h:ke w0 X f Cs N d w)(hs:∀ As,ah w0 X (As++Cs) w->ah w0 X (As++Cs') w'):ke w0 X f Cs' N d w':=by
 obtain⟨ev,L,F,Ps,S,hthl,hcells,hok,hthr,hL,hev,hop,hst⟩:=h
 refine⟨ev,L,F,Ps,?_,hthl,hcells,hok,hthr,hL,hev,hop,hst⟩
 have S1:ah w0 X ((aG f.mp d.m L F::ag f.wb (eH (f.sw ev d.opened d.steps))::bW ev d.ev::el Ps f.tbs.length)++Cs) w:=S
 exact hs _ S1
theorem ke.alloc(h:ke w0 X f Cs N d w)(o:Obj):ke w0 X f Cs N d (w.alloc o):=h.sub fun _ S=>S.alloc o
theorem ke.drewN(h:ke w0 X f Cs N d w)(q:Nat):ke w0 X f Cs N d (w.drewN q):=h.sub fun _ S=>S.drewN q
theorem ke.new(h:ke w0 X f Cs N d w)(o:Obj):ke w0 X f (ag w.heap.size o::Cs) N d (w.alloc o):=h.sub fun As S=>(S.new o).push As
theorem ke.drop{c:aw}(h:ke w0 X f (c::Cs) N d w):ke w0 X f Cs N d w:=h.sub fun As S=>(ah.pull As S).drop
theorem ke.holds(h:ke w0 X f Cs N d w){c:aw}(hc:c∈Cs):c.holds w:=by
 obtain⟨ev,L,F,Ps,S,-⟩:=h
 exact S.holds c (List.mem_cons_of_mem _ (List.mem_cons_of_mem _ (List.mem_cons_of_mem _ (List.mem_append.2 (.inr hc)))))
theorem ke.kept(h:ke w0 X f Cs N d w):aQ X w0 w:=by
 obtain⟨ev,L,F,Ps,S,-⟩:=h
 exact S.kept
theorem ke.wOk(h:ke w0 X f Cs N d w):WOk f.cfg d:=by
 obtain⟨ev,L,F,Ps,S,-,-,hok,-⟩:=h
 exact hok
theorem ke.evl(h:ke w0 X f Cs N d w):d.ev.length<=N*300:=by
 obtain⟨ev,L,F,Ps,S,-,-,-,-,-,hev,-⟩:=h
 exact hev
theorem wM(h:ke w0 X f Cs N d w)(hN:N<=1048577)(n:Nat)(hn:n<=d.ev.length) :
  Calls Tryz.prog 8 #[ptr f.wb,.int .i64 n] w (fun e w'=>∃ ev,e=.returned ev/\ke w0 X f (bW ev (d.ev.drop n)::Cs) N d w'):=by
 obtain⟨ev,L,F,Ps,S,hthl,hcells,hok,hthr,hL,hev,hop,hst⟩:=h
 have S1:ah w0 X (ag f.wb (eH (f.sw ev d.opened d.steps))::bW ev d.ev::aG f.mp d.m L F::(el Ps f.tbs.length++Cs)) w:=ah.push [ag f.wb (eH (f.sw ev d.opened d.steps)),bW ev d.ev] S
 refine(yY (s:=f.sw ev d.opened d.steps) S1 n hn (by omega)).mono ?_
 rintro e w' ⟨ev',rfl,S2⟩
 refine⟨ev',rfl,ev,L,F,Ps,?_,hthl,hcells,hok,hthr,hL,hev,hop,hst⟩
 have S3:ah w0 X (bW ev' (d.ev.drop n)::ag f.wb (eH (f.sw ev d.opened d.steps))::bW ev d.ev::aG f.mp d.m L F::(el Ps f.tbs.length++Cs)) w':=S2
 have S4:ah w0 X (aG f.mp d.m L F::bW ev' (d.ev.drop n)::ag f.wb (eH (f.sw ev d.opened d.steps))::bW ev d.ev::(el Ps f.tbs.length++Cs)) w':=ah.pull [bW ev' (d.ev.drop n),ag f.wb (eH (f.sw ev d.opened d.steps)),bW ev d.ev] S3
 have S5:ah w0 X (bW ev' (d.ev.drop n)::(([aG f.mp d.m L F,ag f.wb (eH (f.sw ev d.opened d.steps)),bW ev d.ev]++el Ps f.tbs.length)++Cs)) w':=by
  rw[List.append_assoc]
  exact S4.sw
 have S6:=ah.push _ S5
 rw[List.append_assoc]at S6
 exact S6
def endedB(l:List dh):Bool:=l.any fun y=>decide (y.e.kind=5\/y.e.kind=6)
structure ToldOk(a:aM)(th:Int)(T:List dh):Prop where
 each:∀ y∈T,y.thread=th/\(y.e.kind=5\/y.e.kind=6->y.e.err=a.err/\(a.err=0↔a.kind=3))
 some:endedB T=true↔(a.kind=3\/a.kind=4)
 fail:a.kind=4↔a.err≠0
 still:(a.kind=0\/a.kind=1)->T=[]\/∃ y l,T=y::l/\y.e.kind=7
end
section
open Go Go.RowKit Go.ChangeShapes Go.WideShapes Go.ChangeAt
theorem gShapes:Tryz.prog.globalNamed "carousel/code.shapes"=some 0:=by kernel_rfl
theorem tShapes:(Tryz.prog.globals[0]?).map (·.type)=some 175:=by kernel_rfl
def zH:List (String×DataW Unit):=[("carousel/code.shapes",Rows.laid_carousel_code_shapes)]
theorem wh(os:Os)(args:Array Value):laidMetH Tryz.prog zH ((World.doorLaid Tryz.prog 400 os).forCall (fun _ _=>0) ⟨#[],args,[]⟩).memory :=
 laidMetH_of_parts3 (fuel:=8) (laidMet_of_run' 8 (by kernel_rfl) (by kernel_rfl)) (by kernel_rfl) (by kernel_rfl)
theorem AX:(Rows.laid_carousel_code_shapes:DataW Unit)=.agg (Cod.shapeT.map fun(n:Nat)=>.lit (.int .u8 (n:Int))):=rfl
theorem kj{W:World}(h:laidMetH Tryz.prog zH W):Cod.Tabled W:=by
 rw[MakeChecks.laidMetH_plain _ _ _ (by kernel_rfl)]at h
 obtain⟨ps,⟨g0,t0,cs0,f0,p0,q0,hg0,ht0,hv0,hd0,_⟩,_⟩:=h
 obtain rfl:=Option.some.inj (gShapes.symm.trans hg0)
 obtain rfl:=Option.some.inj (tShapes.symm.trans ht0)
 obtain⟨xs,m1,rfl,hx1,hlen,hn,hel⟩:=DataW.trod_array Tryz.underlying175 hd0
 have c1:Tryz.prog.cellsOf 5=1:=by kernel_rfl
 have hcell:∀ i,i<41->W.cell? ⟨0,i,none⟩=some (.int .u8 (Cod.shapeN i:Int)):=by
  intro i hi
  have h1:=hel i hi
  rw[c1]at h1
  have hxi:xs[i]?=some (xs[i]'(by omega)):=List.getElem?_eq_getElem (by omega)
  rw[hxi]at h1
  obtain⟨k,e1,e2,_⟩:=DataW.trod_int Tryz.underlying5 h1
  have hcs:=World.var?_cell hg0 hv0 i
  have hd:(xs.map (·.1))[i]?=(Cod.shapeT.map fun(n:Nat)=>(DataW.lit (.int .u8 (n:Int)):DataW Unit))[i]?:=by
   rw[AX]at hx1
   simp only[Prod.mk.injEq,DataW.agg.injEq]at hx1
   rw[hx1.1]
  rw[List.getElem?_map,List.getElem?_map,hxi,e2]at hd
  have hsh:Cod.shapeT[i]?=some (Cod.shapeN i):=by
   have:i<Cod.shapeT.length:=by simpa[Cod.shapeT]using hi
   rw[List.getElem?_eq_getElem this]
   simp[Cod.shapeN,List.getD_eq_getElem?_getD,this]
  rw[hsh]at hd
  have hk:k=(Cod.shapeN i:Int):=by simpa using hd
  subst hk
  rw[hcs]
  have e3:(cs0.toList.drop (i*1)).take 1=[Value.int .u8 (Cod.shapeN i:Int)]:=e1
  rw[Nat.mul_one]at e3
  have e4:cs0.toList[i]?=some (Value.int .u8 (Cod.shapeN i:Int)):=by
   have:=congrArg (fun l=>l[0]?) e3
   simpa using this
  simpa using e4
 exact⟨by have:=World.block_lt_of_cell? W _ (hcell 0 (by omega));simpa using this,hcell⟩
theorem sy{H:Type}{enc:TypeId×Value->H}{w:World}{r:Reach}{b0:Nat}{v:Value}{d:DataW H}{p:List MemPlace}
  (hv:Value.okWide Tryz.prog w r b0 29 v) (h:DataW.Trod enc Tryz.prog w 0 (fun _=>true) true 29 v d p) (hf:Plc.Fits Tryz.prog 29 d) :
  ∃ xs:List Int,ct w w.heap.size v xs.length 1 (bz xs)/\xs.length<=Rows.uptoBulk d:=by
 obtain⟨a0,CQ,cap0,rfl⟩:=okWide_slice Tryz.underlying29 hv
 obtain⟨fuel,h⟩:=h
 have h':DataW.trod enc Tryz.prog w 0 (fun _=>true) true fuel 29 [.slice a0 CQ cap0]=some (d,p):=by simpa[Value.cells]using h
 obtain⟨l,h1,-,-⟩:=gb (α:=Int) (by':=8) (sz:=1) Tryz.underlying29 (by kernel_rfl) (by kernel_rfl) (by decide) (by decide) (fun z=>[.int .i64 z]) (fun _=>rfl) (fun _=>True) (fun cs n y hl hy _=>by
  match cs,hl with
  | [c0],_ =>
   obtain⟨z,e,-,hw⟩:=DataW.trod_int Tryz.underlying3 hy
   simp at e
   exact⟨z,by rw[e],trivial⟩) h' hf
 refine⟨l,by rw[ni]at h1;exact h1,?_⟩
 obtain⟨-,a,c,hs,-⟩:=h1
 injection hs with e1 e2 e3
 rcases Go.Deep.open_slice Tryz.underlying29 h' with⟨h0,hx⟩|⟨a,len,cap,m,n,D,Pl,hcs,_,hl,hm,hmm,hx,hi⟩
 ·simp at h0
  omega
 ·simp at hcs
  obtain⟨k1,k2,k3⟩:=hcs
  injection hx with hd _
  subst hd
  have h2:=DB ((List.range len).map D)
  simp only[List.length_map,List.length_range]at h2
  simp only[Rows.uptoBulk]
  omega
end
theorem qL(n r:Nat)(s:Int):bK ((gL n r).head s)=0:=by
 unfold au.head gL
 dsimp only
 rw[List.getD_eq_getElem?_getD,List.getElem?_replicate]
 split<;>rfl
theorem BX{c:cN}(n r k:Nat)(hc:co c)(hr:c.ring=r):WG c (xd (gL n r) k):=by
 have hj:∀ t∈(xd (gL n r) k).th,t.job=none:=fun t ht=>by
  simp only[xd,List.mem_replicate]at ht
  rw[ht.2]
 have hjn:∀ (i:Nat) (t:TD) (j:dY),(xd (gL n r) k).th[i]?=some t->t.job=some j->False:=fun i t j h1 h2=>by
  rw[hj t (List.mem_of_getElem? h1)]at h2
  exact nomatch h2
 have hnone:∀ t∈(xd (gL n r) k).th,∀ j,t.job=some j->False:=fun t ht j h2=>by
  rw[hj t ht]at h2
  exact nomatch h2
 refine⟨⟨rfl,?_,⟨?_,hc.ring.1⟩,fun s _=>?_,fun s _ h=>?_,fun g hg=>(nomatch hg)⟩,fun t ht j h=>(hnone t ht j h).elim,fun n n' t t' j j' s _ h1 _ h2=>(hjn n t j h1 h2).elim,fun t ht j h=>(hnone t ht j h).elim,fun n n' t t' j j' _ h1 _ h2=>(hjn n t j h1 h2).elim,fun y hy=>(nomatch hy),fun A y B h=>?_⟩
 ·show(0:Int)<=c.stamps
  have:=hc.stamps
  omega
 ·show(gL n r).ring=c.ring
  rw[hr]
  unfold gL au.ring
  simp
 ·have e:bK ((xd (gL n r) k).m.head s)=0:=qL n r s
  rw[e]
  exact⟨Int.le_refl _,Int.le_refl _,.inl rfl⟩
 ·have e:bK ((xd (gL n r) k).m.head s)=0:=qL n r s
  omega
 ·have h2:([]:List dh)=A++y::B:=h
  simp at h2
section
variable {w0:World}{X:List Nat}{Cs:List aw}{w:World}
def nN(w:World)(s:cQ)(N:Nat)(e:Ending)(w':World):Prop :=
 (e=.returned (.tuple #[.pointer none,.bool true])/\Below w.heap.size w w') \/
  ∃ f X' w1 d,e=.returned (.tuple #[ptr f.wb,.bool true])/\jZ w s f X' w1/\ke w1 X' f [] N d w'/\WG f.cfg d
theorem lH{w w':World}{s:cQ}{f:iE}{X':List Nat}(h:jZ w s f X' w'):co f.cfg/\f.cfg=⟨s.c.ring,s.c.writes,s.c.stamps,s.c.multi⟩ :=
 ⟨(yf (code:=.empty) (xs:=[]) h.fix.check (by decide) (by decide) (fun _ h=>nomatch h)).cfg,by unfold iE.cfg;rw[h.c]⟩
theorem wF{w w':World}{s:cQ}{f:iE}{X':List Nat}(h:jZ w s f X' w'):WG f.cfg (xd (m0 s) f.tbs.length):=by
 obtain⟨hc,he⟩:=lH h
 refine BX _ _ _ hc ?_
 have:=hc.ring
 rw[he]at this ⊢
 dsimp only at this ⊢
 omega
theorem tF(w:World)(s:cQ)(lv:Value)(ls:List Int)(hs:cP w w.heap.size s)(hl:ct w w.heap.size lv ls.length 1 (bz ls))(hlen:ls.length<=1048576)(ht:Cod.Tabled w) :
  Calls Tryz.prog 13 #[s.val,lv] w (nN w s ls.length):=by
 have HBG:=kH (fun o=>pi (w.alloc o) s ((hs.below (ai w o)).up (by simp)) (ht.below ht.1 (ai w o)))
 have HLR:=kH (fun(W:World) (hb:Below w.heap.size w W)=>hl.below hb)
 obtain⟨-,la,lc,hlv,hlc,-,-⟩:=hl
 subst hlv
 have HPP:Hid (∀ f X' w1 d o W,jZ (w.alloc o) s f X' w1->ke w1 X' f [] ls.length d W->WG f.cfg d->nN w s ls.length (.returned (.tuple #[ptr f.wb,.bool true])) W):=fun f X' w1 d o W hb hW hG =>
  .inr ⟨f,X',w1,d,rfl,⟨(ai w _).trans (hb.below.mono (by simp)),fun x hx=>Nat.le_trans (by simp) (hb.new x hx),hb.fix,hb.c,hb.rs,hb.at_⟩,hW,hG⟩
 have HPN:Hid (∀ W,Below w.heap.size w W->nN w s ls.length (.returned (.tuple #[.pointer none,.bool true])) W):=fun W hb=>.inl ⟨rfl,hb⟩
 generalize nN w s ls.length=Q at *
 obtain⟨c,rv,rs,pv,progs,tv,tl⟩:=s
 unfold cQ.val at HBG ⊢
 dsimp only at HBG ⊢
 obtain⟨nl,hnl⟩:∃ n,ls.length=n:=⟨_,rfl⟩
 have HNL:=kH hnl
 rw[hnl]at hlen hlc HLR HPP ⊢
 clear hs ht hnl
 go_enter Tryz.func13,Tryz.ntmps13
 go_wp2_with fail
 refine(HBG.out _).mono ?_
 rintro e1 w1 (⟨-,rfl,hb1⟩|⟨-,f,X',rfl,hbeg⟩)
 ·have HQ:=kH (HPN.out _ ((ai w _).trans (hb1.mono (by simp))))
  clear HBG HLR HPP HPN hb1
  go_wp2
  try go_ret
  exact HQ.out
 ·have HBW:Hid (∀ W,aQ X' w1 W->Below w.heap.size w W):=fun W hk =>
   ((ai w _).trans (hbeg.below.mono (by simp))).trans ((hk.belowN (Nat.le_trans (by simp) hbeg.below.size) (fun x hx=>Nat.le_trans (by simp) (hbeg.new x hx))))
  have HFX:=kH hbeg.fix
  have HW0:=kH hbeg.at_
  have HG0:=kH (wF hbeg)
  have HCF:=kH (lH hbeg).1
  have HQ:=kH (fun d W hW hG=>HPP.out f X' w1 d _ W hbeg hW hG)
  clear hbeg HBG HPP HPN
  unfold ptr at HQ ⊢
  go_wp2
  go_loopg[8] (nl+1) (fun n v8 wr=>∃ (i:Nat) (d:WD),i<=nl/\v8=.int .i64 i/\n+i=nl+1/\ke w1 X' f [] i d wr/\WG f.cfg d)
  case atStart=>exact⟨0,_,Nat.zero_le _,rfl,rfl,HW0.out,HG0.out⟩
  case round =>
   obtain⟨i,d,hi,rfl,hn,hW,hG⟩:=hrel
   have HN:=kH hn
   have HG:=kH hG
   have hin:(i:Int)<=(nl:Int):=by omega
   clear hn HW0 hG HG0
   by_cases hlt:i<nl
   ·obtain⟨li,hli⟩:∃ li,ls[i]?=some li:=⟨ls[i]'(by have:=HNL.out;omega),List.getElem?_eq_getElem _⟩
    obtain⟨-,a0,c0,hv0,-,-,hc0⟩:=HLR.out _ (HBW.out _ hW.kept)
    injection hv0 with hv1 hv2 hv3
    rcases hc0 with h|⟨b,off,rfl,hbB,hcell⟩
    ·omega
    subst hv1
    have HLI:Hid (∀ W,aQ X' w1 W->b<W.heap.size/\W.cell? ⟨b,off+i,none⟩=some (.int .i64 li)):=fun W hk=>by
     have hbw:=HBW.out _ hk
     obtain⟨-,a0,c0,hv0,-,-,hc0⟩:=HLR.out _ hbw
     injection hv0 with hv1 hv2 hv3
     rcases hc0 with h|⟨b',off',h',hb',hcell⟩
     ·omega
     rw[h']at hv1
     injection hv1 with hv1
     injection hv1 with e1 e2 e3
     subst e1 e2
     exact⟨Nat.lt_of_lt_of_le hb' hbw.size,hcell i _ (by unfold bz;rw[List.getElem?_map,hli];rfl)⟩
    obtain⟨hbs,l0⟩:=HLI.out _ hW.kept
    have hlt':(i:Int)<(nl:Int):=by omega
    have hlcI:(nl:Int)<=(lc:Int):=by omega
    have HST:=kH (DK HFX.out hW (by omega) li)
    have HOK:=kH hW.wOk
    clear hcell hv2 hv3 hli hW HQ
    unfold ptr at HST
    go_wp2_with fail
    refine HST.out.mono ?_
    rintro e2 w2 ⟨⟨ak,ae,av,aa⟩,d',rfl,hstep,hW2⟩
    have HG2:=kH (zi HCF.out HOK.out HG.out hstep)
    have HW2:=kH hW2
    unfold aM.val
    dsimp only
    clear hW2 hstep HST l0 hbs HLI
    go_wp2
    go_roundg (nl-i)
    case measure=>have:=HN.out;omega
    case rel=>exact⟨i+1,d',by omega,by go_num,by have:=HN.out;omega,HW2.out,HG2.out⟩
   ·obtain rfl:i=nl:=by omega
    have HR:=kH (HQ.out d wr hW HG.out)
    clear hW HQ
    go_wp2
    try go_ret
    exact HR.out
end
section
variable {w0:World}{X:List Nat}{Cs:List aw}{w:World}{f:iE}{N:Nat}{d:WD}
theorem lB:∀ (T:List dh) (k j:Nat) (y:dh) (u:Value),T[k]?=some y->(fO y)[j]?=some u->(aL T)[k*19+j]?=some u
 | [],k,j,y,u,h,_=>by simp at h
 | x::T,0,j,y,u,h,hu=>by
  simp only[gZ,Option.some.injEq]at h
  subst h
  have hj:=(List.getElem?_eq_some_iff.1 hu).1
  show(fO x++aL T)[0*19+j]?=_
  rw[Nat.zero_mul,Nat.zero_add,List.getElem?_append_left hj]
  exact hu
 | x::T,k+1,j,y,u,h,hu=>by
  have ih:=lB T k j y u (by simpa using h) hu
  show(fO x++aL T)[(k+1)*19+j]?=_
  have hl:(fO x).length=19:=rfl
  rw[List.getElem?_append_right (by rw[hl];omega),hl,show(k+1)*19+j-19=k*19+j by omega]
  exact ih
class eX(w:World)(g o:Nat)(cs:outParam (List Value)):Prop where
 at_:w.rangeAt g o cs
 len:cs.length=8
theorem mW{w:World}{g o:Nat}{cs:List Value} [h:eX w g o cs]:(loadSig (.pointer (some ⟨g,o,none⟩))).run Tryz.prog w=.ok (.agg cs.toArray) w:=by
 unfold loadSig Instr.loadAt
 have e:=run_loadVar_mid (P:=Tryz.prog) w g o 42 cs _ h.at_ Tryz.underlying42 rfl (by rw[fN,h.len])
 simp only[Instr.sureAddr,Sem.run_bind,Sem.run_pure,Result.andThen_ok,e]
theorem tU{y:dh}{k:Nat}(h:k<8):(fO y)[10+k]?=some (.int .u64 (y.e.sig.getD k 0)):=by
 rcases(show k=0\/k=1\/k=2\/k=3\/k=4\/k=5\/k=6\/k=7 by omega)with rfl|rfl|rfl|rfl|rfl|rfl|rfl|rfl
 all_goals rfl
def dG(s:List Int):List Value:=s.map (Value.int .u64)
theorem u4{w:World}{g:Nat}{y:dh}(h:w.heap[g]?=some (.cells (fO y).toArray 44 (0,0)))(hs:y.e.sig.length=8):eX w g 10 (dG y.e.sig) :=
 ⟨fun j v hv=>by
  have hj:=(List.getElem?_eq_some_iff.1 hv).1
  have hj8:j<8:=by simpa[dG,hs]using hj
  unfold dG at hv
  rw[List.getElem?_map,List.getElem?_eq_getElem (by omega)]at hv
  have e:v=.int .u64 (y.e.sig.getD j 0):=by
   rw[List.getD_eq_getElem?_getD,List.getElem?_eq_getElem (by omega)]
   simpa using hv.symm
  subst e
  rw[cell_of_row w g _ _ _ _ h,gA]
  exact tU hj8,by simp[dG,hs]⟩
theorem Av(s:List Int):(dG s).toArray=bH s:=rfl
theorem ah.setRow{x:Nat}{cs:Array Value}{t:TypeId}(h:ah w0 X (ag x (.cells cs t (0,0))::Cs) w)(cs':Array Value):ah w0 X (ag x (.cells cs' t (0,0))::Cs) (w.setRow x cs') :=
 h.chg ⟨rfl,rfl,rfl,by simp,fun k _ hn=>setRow_other _ _ _ _ (by simpa using hn)⟩ (setRow_heap _ _ _ _ _ _ h.h0)
theorem wD(l:List bM):(cellsOf l).length<=l.length:=by
 induction l using qj with
 | h0=>exact Nat.le_refl _
 | h1 l x ih =>
  rw[eW,List.length_append]
  split
  ·rw[List.length_append]
   simp
   omega
  ·simp
   omega
theorem ql(A:List dh):(bP A).length<=A.length:=by
 unfold bP
 rw[List.length_map]
 exact List.length_filter_le _ _
theorem Ca(n:Int)(A:List dh):(bh n A).length<=A.length:=by
 unfold bh
 rw[List.length_map]
 exact List.length_filter_le _ _
theorem ke.sep{c:aw}(h:ke w0 X f (c::Cs) N d w):∃ Ds,ah w0 X (c::Ds) w:=by
 obtain⟨ev,L,F,Ps,S,-⟩:=h
 have S1:ah w0 X ((aG f.mp d.m L F::ag f.wb (eH (f.sw ev d.opened d.steps))::bW ev d.ev::el Ps f.tbs.length)++c::Cs) w:=S
 exact⟨_,ah.pull _ S1⟩
theorem uX{H:List dh}{i:Nat}{x:dh}(h:H[i]?=some x):H=H.take i++x::H.drop (i+1)/\(H.take i).length=i:=by
 obtain⟨h1,h2⟩:=List.getElem?_eq_some_iff.1 h
 refine⟨?_,by rw[List.length_take];omega⟩
 rw[<-h2,<-List.drop_eq_getElem_cons h1,List.take_append_drop]
theorem nm{w:World}{a:Option Addr}{n cap:Nat}{H:List dh}(h:aD w 44 19 (.slice a n cap) H.length (aL H))(hn:H.length=n)(h0:0<n) :
  ∃ g,a=some ⟨g,0,none⟩/\n<=cap/\g<w.heap.size/\∀ (k j:Nat) (y:dh) (u:Value),H[k]?=some y->(fO y)[j]?=some u->w.cell? ⟨g,k*19+j,none⟩=some u:=by
 rcases h.parts with⟨-,h2,-⟩|⟨g,cap',hv,hnc,hcm,hg,hcell⟩
 ·omega
 ·injection hv with h1 h2 h3
  exact⟨g,h1,by omega,hg,fun k j y u hy hu=>hcell _ u (lB H k j y u hy hu)⟩
theorem xE{w w1 W:World}{o:Obj}{X:List Nat}(hb:Below (w.alloc o).heap.size (w.alloc o) w1)(hX:∀ x∈X,(w.alloc o).heap.size<=x)(hk:aQ X w1 W):Below w.heap.size w W/\W.heap[w.heap.size]?=some o:=by
 have h:=hb.trans (hk.belowN hb.size hX)
 exact⟨(ai w o).trans (h.mono (by simp)),it h (ar rfl)⟩
end
end Go.Proofs.YtgfogfciobmmpaaGreatDoor
