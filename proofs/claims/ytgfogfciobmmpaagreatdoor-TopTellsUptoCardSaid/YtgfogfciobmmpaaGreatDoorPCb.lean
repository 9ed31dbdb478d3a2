/- A part of the proof of the law TopTells: WStp Begun WEv TelW TelR. -/
import Derived.Test.YtgfogfciobmmpaaGreatDoorPBz
import Derived.Test.YtgfogfciobmmpaaGreatDoorPCa
import Derived.Deep.CutRange
import Derived.Test.YtgfogfciobmmpaaGreatDoorCards
import Derived.Test.YtgfogfciobmmpaaGreatDoorTie
import Derived.ProofKit
import Derived.LaidMore
import Derived.OpenShut
import Derived.SizedLaws
import Derived.Deep.DeepHandedRow
import Derived.SevenTiedAt
set_option linter.unusedSimpArgs false
set_option linter.unusedVariables false
set_option maxRecDepth 100000
set_option maxHeartbeats 8000000
namespace Go.Proofs.YtgfogfciobmmpaaGreatDoor
section
open Go.RowKit
set_option maxRecDepth 10000
variable {w0:World} {X:List Nat} {Cs:List Comp} {w:World} {f:FixW} {N:Nat} {d:WD}
theorem wat_pull {a b c:Comp} {Ps:Nat→List Comp} {n i:Nat} (hi:i < n) (S:Sep w0 X (a::b::c::(flat Ps n++Cs)) w):Sep w0 X (a::b::c::(Ps i++(flat (fun k=>if k=i then [] else Ps k) n++Cs))) w:=by
 refine S.perm (List.Perm.cons _ (List.Perm.cons _ (List.Perm.cons _ ?_)))
 rw [← List.append_assoc]
 exact List.Perm.append_right Cs (flat_at Ps hi)
theorem wat_push {a b c:Comp} {Ps:Nat→List Comp} {n i:Nat} (hi:i < n) {Q:List Comp} (S:Sep w0 X (a::b::c::(Q++(flat (fun k=>if k=i then [] else Ps k) n++Cs))) w):Sep w0 X (a::b::c::(flat (fun k=>if k=i then Q else Ps k) n++Cs)) w:=by
 refine S.perm (List.Perm.cons _ (List.Perm.cons _ (List.Perm.cons _ ?_)))
 rw [← List.append_assoc]
 exact List.Perm.append_right Cs (flat_set Ps hi Q)
theorem ThrP.mono {m m':MemD} {i:Nat} {t:TD} {Ps:List Comp} (h:ThrP f m N i t Ps) (hm:m'.cells.length=m.cells.length):ThrP f m' (N+1) i t Ps:=by
 obtain ⟨tb,u,ol,Qs,h1,h2,h3,h4,h5,h6,h7,h8,h9⟩:=h
 refine ⟨tb,u,ol,Qs,h1,h2,h3,h4,h5,by omega,by omega,h8,?_⟩
 cases hj:t.job with
 | none=>rw [hj] at h9;exact h9
 | some j =>
   rw [hj] at h9
   obtain ⟨k1,k2,x,k,rv,Rs,k3,k4,k5,k6,k7,k8,k9⟩:=h9
   exact ⟨k1,by omega,x,k,rv,Rs,k3,k4,k5,k6,by rw [hm];exact k7,k8,k9⟩
theorem six_pull {a b c p q r:Comp} {Rs Rest:List Comp} (S:Sep w0 X (a::b::c::((p::q::r::Rs)++Rest)) w):Sep w0 X (Rs++(a::r::b::c::p::q::Rest)) w:=by
 have S1:Sep w0 X (a::b::c::p::q::r::(Rs++Rest)) w:=S
 have S2:Sep w0 X (r::a::b::c::p::q::(Rs++Rest)) w:=Sep.pull [a,b,c,p,q] S1
 exact Sep.perm S2.sw (List.perm_append_comm_assoc [a,r,b,c,p,q] Rs Rest)
theorem six_push {a b c p q r:Comp} {Rs Rest:List Comp} (S:Sep w0 X (Rs++(a::r::b::c::p::q::Rest)) w):Sep w0 X (a::b::c::((p::q::r::Rs)++Rest)) w:=by
 have S1:Sep w0 X (a::r::b::c::p::q::(Rs++Rest)) w:=S.perm (List.perm_append_comm_assoc Rs [a,r,b,c,p,q] Rest)
 have S2:Sep w0 X (a::b::c::p::q::r::(Rs++Rest)) w:=Sep.push [a,b,c,p,q] S1.sw
 exact S2
theorem wat_of_post {i:Nat} {s:SW} {u:ST} {t:TD} {tb:Nat} {ol:List Value} {ev:Value} {x L:Nat} {k:PCfg} {rv:Value} {j:JobD} {Ps:Nat→List Comp} {e:Ending} {w':World}
   (hf:FixOk w0 X f) (hok:WOk f.cfg d) (hthl:d.th.length=f.tbs.length) (hcells:(d.m.cells.length:Int)=f.hi) (hrest:∀ n t,d.th[n]?=some t→ThrP f d.m N n t (Ps n)) (hL:L≤N * 100) (hev:d.ev.length≤N * 300) (hop:0≤d.opened∧d.opened≤N * 300) (hst:0≤d.steps∧d.steps≤N)
   (hs:s=f.sw ev d.opened d.steps) (ht:d.th[i]?=some t) (htb:f.tbs[i]?=some tb) (hjv:f.jvs[i]?=some u.jv) (htx:u.tx=t.tx) (hstamp:u.stamp=t.stamp) (hus:0≤u.steps∧u.steps≤N) (huw:0≤u.waits∧u.waits≤N) (hno:t.no < f.nj i)
   (hj:t.job=some j∨t.job=none∧j=newJ f.cfg) (hjl:j.told.length≤N * 300) (hkc:k.c=f.cfg) (hk:KOk k f.hi) (hkl:k.cells≤d.m.cells.length)
   (h:SchPost w0 X (flat (fun k=>if k=i then [] else Ps k) f.tbs.length++Cs) f.wb tb s u d.ev t.no ol x k rv f.hi j d.m L (i:Int) e w') :
   ∃ a d',e=.returned a.val∧WStep f.cfg f.nj d (i:Int) a d'∧WAt w0 X f Cs (N+1) d' w':=by
 subst hs
 have hcf:CfgOk f.cfg:=hkc ▸ hk.cfg
 obtain ⟨a,new,m',nx,F2,L',ev',u',hL',rfl,hstep,hjv',htx',hstamp',hus',huw',hnx⟩:=h
 have hil:i < f.tbs.length:=(List.getElem?_eq_some_iff.1 htb).1
 have hjo:=wOk_job hcf hok (List.mem_of_getElem? ht) hj
 rw [hkc] at hstep
 have hlen:=jstep_len hcf hok.mem hjo hstep
 have hW:WStep f.cfg f.nj d (i:Int) a _:=.step (n:=i) rfl ht hno hj hstep
 obtain ⟨hok',hthl',-,-⟩:=wstep_ok hcf hok hW
 obtain ⟨-,-,-,-,hml⟩:=job_step hcf hok.mem hjo hstep
 obtain ⟨ho1,ho2⟩:=tk_opened new ⟨d.opened,t.tx,t.stamp⟩
 dsimp only at ho1 ho2
 rw [show (f.sw ev d.opened d.steps).opened=d.opened from rfl,htx,hstamp] at htx' hstamp'
 rw [show (f.sw ev d.opened d.steps).opened=d.opened from rfl,show (f.sw ev d.opened d.steps).steps=d.steps from rfl,show (f.sw ev d.opened d.steps).mp=f.mp from rfl,htx,hstamp] at hnx
 refine ⟨a,_,rfl,hW,?_⟩
 have hset:∀ n t2,(d.th.set i ⟨nextJ nx,(new.foldl tkS ⟨d.opened,t.tx,t.stamp⟩).tx,(new.foldl tkS ⟨d.opened,t.tx,t.stamp⟩).stamp,nextNo t.no nx⟩)[n]?=some t2→(n=i∧t2=⟨nextJ nx,(new.foldl tkS ⟨d.opened,t.tx,t.stamp⟩).tx,(new.foldl tkS ⟨d.opened,t.tx,t.stamp⟩).stamp,nextNo t.no nx⟩)∨(n≠i∧d.th[n]?=some t2):=by
   intro n t2 hn
   rw [List.getElem?_set] at hn
   by_cases e:i=n
   · subst e
     rw [if_pos rfl] at hn
     split at hn
     · left
       injection hn with hn
       exact ⟨rfl,hn.symm⟩
     · simp at hn
   · rw [if_neg e] at hn
     exact .inr ⟨fun h=>e h.symm,hn⟩
 have hthl2:(d.th.set i ⟨nextJ nx,(new.foldl tkS ⟨d.opened,t.tx,t.stamp⟩).tx,(new.foldl tkS ⟨d.opened,t.tx,t.stamp⟩).stamp,nextNo t.no nx⟩).length=f.tbs.length:=by simp [hthl]
 have hevl:(d.ev++tkAll d.steps (i:Int) ⟨d.opened,t.tx,t.stamp⟩ new).length≤(N+1) * 300:=by
   rw [List.length_append,tkAll_len]
   omega
 cases nx with
 | on j' =>
   obtain ⟨hjp,htk,hJ⟩:=hnx
   obtain ⟨Rs,hR,S⟩:=of_jobAt hJ
   have S2:=wat_push hil (six_push S)
   refine ⟨ev',L',F2,_,S2,hthl2,by dsimp only;rw [hml];exact hcells,hok',fun n t2 hn=>?_,by omega,hevl,by dsimp only;omega,by dsimp only;omega⟩
   rcases hset n t2 hn with ⟨rfl,rfl⟩ | ⟨hne,hn⟩
   · rw [if_pos rfl]
     refine ⟨tb,u',ol,_,htb,by rw [hjv'];exact hjv,rfl,htx',hstamp',by omega,by omega,Nat.le_of_lt hno,?_⟩
     refine ⟨hno,?_,x,k,rv,Rs,hjp,htk,hkc,hk,by dsimp only;rw [hml];exact hkl,rfl,hR⟩
     rw [jstep_told hstep,List.length_append]
     omega
   · rw [if_neg hne]
     exact (hrest n t2 hn).mono hml
 | over =>
   obtain ⟨hjp,ol',S⟩:=hnx
   have S1:Sep w0 X (cMem f.mp m' L' F2::cBlk f.wb (swO (f.sw ev' (new.foldl tkS ⟨d.opened,t.tx,t.stamp⟩).opened (d.steps+1)))::cEv ev' (d.ev++tkAll d.steps (i:Int) ⟨d.opened,t.tx,t.stamp⟩ new)::([cBlk tb (stO u'),cRow 74 3 u'.ov (t.no+1) ol']++(flat (fun k=>if k=i then [] else Ps k) f.tbs.length++Cs))) w':=S
   have S2:=wat_push hil S1
   refine ⟨ev',L',F2,_,S2,hthl2,by dsimp only;rw [hml];exact hcells,hok',fun n t2 hn=>?_,by omega,hevl,by dsimp only;omega,by dsimp only;omega⟩
   rcases hset n t2 hn with ⟨rfl,rfl⟩ | ⟨hne,hn⟩
   · rw [if_pos rfl]
     exact ⟨tb,u',ol',[],htb,by rw [hjv'];exact hjv,rfl,htx',hstamp',by omega,by omega,hno,hjp,rfl⟩
   · rw [if_neg hne]
     exact (hrest n t2 hn).mono hml
theorem W_step (hf:FixOk w0 X f) (h:WAt w0 X f Cs N d w) (hN:N≤1048576) (i:Int) :
   Calls Tryz.prog 7 #[ptr f.wb,.int .i64 i] w (fun e w'=>∃ a d',e=.returned a.val∧WStep f.cfg f.nj d i a d'∧WAt w0 X f Cs (N+1) d' w'):=by
 obtain ⟨ev,L,F,Ps,S,hthl,hcells,hok,hthr,hL,hev,hop,hst⟩:=h
 have hkk:=kOk_of (code:=.empty) (xs:=[]) hf.check (by decide) (by decide) (fun _ h=>nomatch h)
 have hcf:CfgOk f.cfg:=hkk.cfg
 have hhi:f.hi≤1024:=(hi_le hf.check).2
 have hsame:∀ w',Sep w0 X (cMem f.mp d.m L F::cBlk f.wb (swO (f.sw ev d.opened d.steps))::cEv ev d.ev::(flat Ps f.tbs.length++Cs)) w'→WAt w0 X f Cs (N+1) d w':=fun w' S' =>
   ⟨ev,L,F,Ps,S',hthl,hcells,hok,fun n t hn=>(hthr n t hn).mono rfl,by omega,by omega,by omega,by omega⟩
 by_cases hi:i < 0∨(f.tbs.length:Int)≤i
 · refine (Sch_out (S.pull [_]) (s:=f.sw ev d.opened d.steps) hf.thr i hi).mono ?_
   rintro e w' ⟨rfl,S'⟩
   exact ⟨ansNone,d,rfl,.out (by rw [hthl];exact hi),hsame w' S'.sw⟩
 · obtain ⟨n,rfl⟩:∃ n:Nat,i=n:=⟨i.toNat,by omega⟩
   have hn:n < f.tbs.length:=by omega
   obtain ⟨t,ht⟩:∃ t,d.th[n]?=some t:=⟨d.th[n]'(by omega),List.getElem?_eq_getElem _⟩
   obtain ⟨tb,u,ol,Qs,h1,h2,h3,h4,h5,h6,h7,h8,h9⟩:=hthr n t ht
   obtain ⟨jl,hjl⟩:∃ jl,f.jobs[n]?=some jl:=⟨f.jobs[n]'(by have:=hf.jnum;omega),List.getElem?_eq_getElem _⟩
   have hnj:f.nj n=jl.length:=by unfold FixW.nj;rw [getD_of hjl]
   obtain ⟨hj32,hjrow⟩:=hf.jobs n jl u.jv hjl h2
   have S1:=wat_pull hn S
   rw [h3] at S1
   have hpost:∀ e w',(∃ j x k rv,(t.job=some j∨t.job=none∧j=newJ f.cfg)∧j.told.length≤N * 300∧k.c=f.cfg∧KOk k f.hi∧k.cells≤d.m.cells.length∧∃ u2:ST,u2.jv=u.jv∧u2.tx=u.tx∧u2.stamp=u.stamp∧u2.steps=u.steps∧u2.waits=u.waits ∧
       SchPost w0 X (flat (fun k=>if k=n then [] else Ps k) f.tbs.length++Cs) f.wb tb (f.sw ev d.opened d.steps) u2 d.ev t.no ol x k rv f.hi j d.m L (n:Int) e w')→t.no < f.nj n→∃ a d',e=.returned a.val∧WStep f.cfg f.nj d (n:Int) a d'∧WAt w0 X f Cs (N+1) d' w':=by
     intro e w' hj hno
     obtain ⟨j,x,k,rv,q1,q2,q3,q4,q5,u2,r1,r2,r3,r4,r5,hp⟩:=hj
     exact wat_of_post hf hok hthl hcells hthr hL hev hop hst rfl ht h1 (by rw [r1];exact h2) (r2.trans h4) (r3.trans h5) (by rw [r4];exact h6) (by rw [r5];exact h7) hno q1 q2 q3 q4 q5 hp
   by_cases hfull:t.no=f.nj n
   · have hnone:t.job=none:=by
       cases hj:t.job with
       | none=>rfl
       | some j =>
         rw [hj] at h9
         have:=h9.1
         omega
     obtain ⟨ja,jc,hjv,-,-⟩:=(hjrow w S.kept).slice
     have S2:Sep w0 X (cMem f.mp d.m L F::cBlk f.wb (swO (f.sw ev d.opened d.steps))::cEv ev d.ev::cBlk tb (stO u)::cRow 74 3 u.ov t.no ol::(Qs++(flat (fun k=>if k=n then [] else Ps k) f.tbs.length++Cs))) w:=S1
     have S3:Sep w0 X (cBlk tb (stO u)::cMem f.mp d.m L F::cBlk f.wb (swO (f.sw ev d.opened d.steps))::cEv ev d.ev::cRow 74 3 u.ov t.no ol::(Qs++(flat (fun k=>if k=n then [] else Ps k) f.tbs.length++Cs))) w:=Sep.pull [cMem f.mp d.m L F,cBlk f.wb (swO (f.sw ev d.opened d.steps)),cEv ev d.ev] S2
     have S3':Sep w0 X (cBlk f.wb (swO (f.sw ev d.opened d.steps))::cBlk tb (stO u)::cMem f.mp d.m L F::cEv ev d.ev::cRow 74 3 u.ov t.no ol::(Qs++(flat (fun k=>if k=n then [] else Ps k) f.tbs.length++Cs))) w:=Sep.pull [cBlk tb (stO u),cMem f.mp d.m L F] S3
     obtain ⟨oa,oc,hov,-,-⟩:=(show RowAt w _ 3 u.ov t.no ol from (S2.pull [_,_,_,_]).h0).slice
     refine (Sch_full (s:=f.sw ev d.opened d.steps) S3' hf.thr hn h1 (n:=t.no) ⟨ja,jc,by rw [hjv,hfull,hnj]⟩ ⟨oa,oc,hov⟩).mono ?_
     rintro e w' ⟨rfl,S'⟩
     refine ⟨ansNone,d,rfl,.full rfl ht hnone hfull,hsame w' ?_⟩
     have S4:Sep w0 X (cBlk tb (stO u)::cMem f.mp d.m L F::cBlk f.wb (swO (f.sw ev d.opened d.steps))::cEv ev d.ev::cRow 74 3 u.ov t.no ol::(Qs++(flat (fun k=>if k=n then [] else Ps k) f.tbs.length++Cs))) w':=Sep.push [cBlk tb (stO u),cMem f.mp d.m L F] S'
     have S5:Sep w0 X (cMem f.mp d.m L F::cBlk f.wb (swO (f.sw ev d.opened d.steps))::cEv ev d.ev::((cBlk tb (stO u)::cRow 74 3 u.ov t.no ol::Qs)++(flat (fun k=>if k=n then [] else Ps k) f.tbs.length++Cs))) w':=Sep.push [cMem f.mp d.m L F,cBlk f.wb (swO (f.sw ev d.opened d.steps)),cEv ev d.ev] S4
     rw [← h3] at S5
     exact S5.perm (List.Perm.cons _ (List.Perm.cons _ (List.Perm.cons _ (by rw [← List.append_assoc];exact (List.Perm.append_right Cs (flat_at Ps hn)).symm))))
   · have hno:t.no < f.nj n:=by omega
     obtain ⟨ja,jc,hjv,-,-⟩:=(hjrow w S.kept).slice
     cases hj:t.job with
     | some j =>
       rw [hj] at h9
       obtain ⟨k1,k2,x,k,rv,Rs,k3,k4,k5,k6,k7,rfl,k9⟩:=h9
       have HJ:=jobAt_of (told:=j.told) k9 (six_pull S1)
       refine (Step_on (s:=f.sw ev d.opened d.steps) HJ (k5 ▸ hok.job t (List.mem_of_getElem? ht) j hj) k6 hf.tabled hf.low k7 ⟨by omega,hhi⟩ (by omega) (by omega) (by omega) (by omega) k3 k4 ⟨ja,jc,hjv⟩ (by omega) hf.thr hn h1 ⟨⟨by exact hop.1,by show d.opened≤_;omega⟩,⟨hst.1,by show d.steps≤_;omega⟩,⟨by omega,by omega⟩,⟨by omega,by omega⟩⟩).mono ?_
       intro e w' hp
       exact hpost e w' ⟨j,x,k,rv,.inl hj,k2,k5,k6,k7,u,rfl,rfl,rfl,rfl,rfl,hp⟩ hno
     | none =>
       rw [hj] at h9
       obtain ⟨k1,rfl⟩:=h9
       have S2:Sep w0 X (cMem f.mp d.m L F::cBlk f.wb (swO (f.sw ev d.opened d.steps))::cEv ev d.ev::cBlk tb (stO u)::cRow 74 3 u.ov t.no ol::(flat (fun k=>if k=n then [] else Ps k) f.tbs.length++Cs)) w:=S1
       refine (Step_new (s:=f.sw ev d.opened d.steps) hf S2 rfl hok.mem hok.ring hcells (by omega) (by omega) (by omega) k1 h2 hjl (by omega) h1 ⟨⟨hop.1,by show d.opened≤_;omega⟩,⟨hst.1,by show d.steps≤_;omega⟩,⟨by omega,by omega⟩,⟨by omega,by omega⟩⟩).mono ?_
       rintro e w' ⟨x,k,rv,u2,q1,q2,q3,q4,q5,q6,q7,q8,hp⟩
       exact hpost e w' ⟨newJ f.cfg,x,k,rv,.inr ⟨hj,rfl⟩,by simp [newJ,JobD.told,newTx],q1,q2,q3,u2,q4,q5,q6,q7,q8,hp⟩ hno
end
section
open Go.RowKit
variable {w0:World} {X:List Nat} {Cs:List Comp} {w:World}
theorem thrOkB_strip (np:Nat) (l:List (Int×List Int×Value)):thrOkB np l=(decide ((stripJ l).length≤32) && (stripJ l).all (fun x=>decide (0≤x.1∧x.1 < np∧x.2.length≤4))):=by
 unfold thrOkB stripJ
 rw [List.length_map,List.all_map]
 rfl
theorem may_same {s s':SetD} (h:SameS s s'):mayB s'.progs s'.tl=mayB s.progs s.tl:=by
 have hl:s'.tl.length=s.tl.length:=by
   have:=congrArg List.length h.tl
   simpa using this
 have ha:∀ tl:List (Value×List (Int×List Int×Value)),tl.all (fun t=>thrOkB s.progs.length t.2)=(tl.map (fun t=>stripJ t.2)).all (fun l=>decide (l.length≤32) && l.all (fun x=>decide (0≤x.1∧x.1 < s.progs.length∧x.2.length≤4))):=fun tl=>by
   rw [List.all_map]
   congr 1
   funext t
   exact thrOkB_strip _ _
 unfold mayB
 rw [h.progs,hl,ha,ha,h.tl]
theorem refE_ok {s:SetD}:refE s=0↔Plc.checkE s.c s.rs=0∧mayB s.progs s.tl=true:=by
 unfold refE
 by_cases h:Plc.checkE s.c s.rs=0
 · rw [if_pos h]
   by_cases h2:mayB s.progs s.tl=true
   · rw [if_pos h2];simp [h,h2]
   · rw [if_neg h2];simp [h2]
 · rw [if_neg h];simp [h]
def m0 (s:SetD):MemD:=mem0 (s.c.raw+Plc.sumSz s.rs s.rs.length).toNat s.c.ring.toNat
structure BegunAt (w:World) (s:SetD) (f:FixW) (X':List Nat) (w':World):Prop where
 below:Below w.heap.size w w'
 new:∀ x∈X',w.heap.size≤x
 fix:FixOk w' X' f
 c:f.c=s.c
 rs:f.rs=s.rs
 at_:WAt w' X' f [] 0 (wd0 (m0 s) f.tbs.length) w'
open Classical in
theorem begun_of {w w2 w':World} {s s':SetD} {p wb:Nat} {tv rv' pv':Value} {l:List ThrN} {FF:List Nat} (hb2:Below w.heap.size w w2) (hw:0 < w.heap.size) (ht:Cod.Tabled w) (hsame:SameS s s') (hs':SetupR w2 w2.heap.size s') (hE:Plc.checkE s.c s.rs=0) (hm:mayB s.progs s.tl=true)
   (hl:l.map (fun t=>stripJ t.jl)=s'.tl.map (fun t=>stripJ t.2))
   (S:Sep w2 [] (cBlk wb (swO (sw0 s' p rv' pv' tv))::cRow 60 1 tv l.length (l.map fun t=>ptr t.tb)::cMem p (mem0 (s'.c.raw+Plc.sumSz s'.rs s'.rs.length).toNat s'.c.ring.toNat) 0 FF::cRow 90 2 rv' s'.rs.length (regC s'.rs)::cRow 9 1 pv' s'.progs.length (s'.progs.map .string)::(l.flatMap thrA++l.flatMap thrB)) w') :
   ∃ f X',f.wb=wb∧BegunAt w s f X' w':=by
 obtain ⟨⟨hm1,hm2⟩,hm3,hm4⟩:=may_ok hm
 obtain ⟨hi1,hi2⟩:=hi_le hE
 obtain ⟨b1,b2,b3,b4,b5,b6,b7,b8,b9,b10,b11⟩:=of_decide_eq_true (Plc.check_ok hE)
 have hlen:l.length=s.tl.length:=by
   have h1:=congrArg List.length hl
   have h2:=congrArg List.length hsame.tl
   simp at h1 h2
   omega
 have hmem:∀ t∈l,∃ t1∈s'.tl,stripJ t.jl=stripJ t1.2:=fun t ht=>by
   have h1:stripJ t.jl∈l.map (fun t=>stripJ t.jl):=List.mem_map.2 ⟨t,ht,rfl⟩
   rw [hl] at h1
   obtain ⟨t1,h2,h3⟩:=List.mem_map.1 h1
   exact ⟨t1,h2,h3.symm⟩
 rw [hsame.c,hsame.rs,hsame.progs] at S
 have e1:sw0 s' p rv' pv' tv=sw0 s p rv' pv' tv:=by unfold sw0;rw [hsame.c]
 rw [e1] at S
 have S1:=S.nilRow 44 19
 have S2:Sep w2 [] ((cMem p (m0 s) 0 FF::cBlk wb (swO ((fixOf wb p tv s.c s.rs rv' pv' s.progs l).sw (.slice none 0 0) 0 0))::cEv (.slice none 0 0) []::l.flatMap thrA) ++
     (cRow 60 1 tv l.length (l.map fun t=>ptr t.tb)::cRow 90 2 rv' s.rs.length (regC s.rs)::cRow 9 1 pv' s.progs.length (s.progs.map .string)::l.flatMap thrB)) w':=by
   refine Sep.perm S1 (perm_count fun a=>?_)
   show List.count a (cEv (.slice none 0 0) []::cBlk wb (swO ((fixOf wb p tv s.c s.rs rv' pv' s.progs l).sw (.slice none 0 0) 0 0))::_::cMem p (m0 s) 0 FF::_::_::_)=_
   simp only [List.count_cons,List.count_append]
   omega
 obtain ⟨X',hX,hfix,hat⟩:=wat_start S2 (Nat.lt_of_lt_of_le hw hb2.size) hE hm3 hm2 (by omega) (fun t ht=>by
     obtain ⟨t1,h1,h2⟩:=hmem t ht
     obtain ⟨t0,h3,h4⟩:=strip_mem hsame.tl h1
     have:=(hm4 t0 h3).1
     have e1:=strip_len h2
     have e2:=strip_len h4
     omega) (fun t ht j hj=>by
     obtain ⟨t1,h1,h2⟩:=hmem t ht
     obtain ⟨j1,hj1,q1,q2⟩:=strip_job h2 hj
     obtain ⟨-,hj',-⟩:=hs'.each t1 h1
     obtain ⟨-,k2,-,-⟩:=hj' j1 hj1
     obtain ⟨t0,h3,h4⟩:=strip_mem hsame.tl h1
     obtain ⟨j0,hj0,r1,r2⟩:=strip_job h4 hj1
     obtain ⟨z1,z2,z3⟩:=(hm4 t0 h3).2 j0 hj0
     rw [← q1,← q2,← r1]
     refine ⟨⟨z1,z2⟩,by rw [← r2];exact z3,k2⟩) (ht.below hw hb2) (by
     show (mem0 _ _).ring=_
     unfold mem0 MemD.ring
     simp
     omega) (by
     unfold m0 mem0
     simp
     omega)
 refine ⟨_,X',rfl,⟨?_,fun x hx=>Nat.le_trans hb2.size (hX x hx),hfix,rfl,rfl,?_⟩⟩
 · exact hb2.trans (S2.kept.below.mono hb2.size)
 · have e:(fixOf wb p tv s.c s.rs rv' pv' s.progs l).tbs.length=l.length:=by simp [fixOf]
   rw [e]
   exact hat
theorem begun_no (w:World) (s:SetD) (hs:SetupR w w.heap.size s) (E:Int) (hE:refE s=E) (hE0:E≠0) (HNEW:Hid (∀ w2 s',SameS s s'→SetupR w2 w2.heap.size s'→PlainS s'→Calls Tryz.prog 15 #[s'.val] w2 (NewNo E w2))) :
   Calls Tryz.prog 6 #[s.val] w (fun e w'=>e=.returned (.tuple #[.pointer none,.bool true])∧Below w.heap.size w w'):=by
 have HCO:=kH (fun o=>copied_calls (w.alloc o) s ((hs.below (below_alloc w o)).up (by simp)))
 have HRF:=kH (fun (W:World) (hb:Below w.heap.size w W)=>Refuses_calls W s ((hs.below hb).up hb.size))
 rw [hE] at HRF
 obtain ⟨c,rv,rs,pv,progs,tv,tl⟩:=s
 unfold SetD.val at HCO HRF ⊢
 dsimp only at HCO HRF ⊢
 have hE0':(E == 0)=false:=by simp [hE0]
 clear hs hE hE0
 go_enter Tryz.func6,Tryz.ntmps6
 go_wp2_with fail
 refine (HCO.out _).mono ?_
 rintro e2 w2 ⟨s',rfl,hsame,hset,hpl,hb2⟩
 have HNW:=kH (HNEW.out w2 s' hsame hset hpl)
 unfold SetD.val at HNW
 dsimp only
 have hbw2:Below w.heap.size w w2:=(below_alloc w _).trans (hb2.mono (by simp))
 have hC2:=box_keep' hb2 (heap_new (w:=w) rfl)
 clear HCO HNEW
 go_wp2_with fail
 refine HNW.out.mono ?_
 rintro e3 w3 ⟨rfl,hb3⟩
 have hC:=box_keep' hb3 hC2
 have q0:=cell_of_row w3 w.heap.size 0 _ _ _ hC
 have q1:=cell_of_row w3 w.heap.size 1 _ _ _ hC
 have q2:=cell_of_row w3 w.heap.size 2 _ _ _ hC
 have q3:=cell_of_row w3 w.heap.size 3 _ _ _ hC
 have q4:=cell_of_row w3 w.heap.size 4 _ _ _ hC
 have q5:=cell_of_row w3 w.heap.size 5 _ _ _ hC
 have q6:=cell_of_row w3 w.heap.size 6 _ _ _ hC
 have q7:=cell_of_row w3 w.heap.size 7 _ _ _ hC
 have q8:=cell_of_row w3 w.heap.size 8 _ _ _ hC
 simp only [gA,gZ,gS] at q0 q1 q2 q3 q4 q5 q6 q7 q8
 have hlt:=heap_lt hC
 have HB:=kH (hbw2.trans (hb3.mono hbw2.size))
 clear hC hC2 hb3 hb2 hbw2 HNW hsame hset hpl
 go_wp2_with fail
 refine (HRF.out _ HB.out).mono ?_
 rintro e4 w4 ⟨rfl,hb4⟩
 go_wp2
 go_ret2
 exact ⟨rfl,HB.out.trans (hb4.mono HB.out.size)⟩
theorem begun_yes (w:World) (s:SetD) (hs:SetupR w w.heap.size s) (ht:Cod.Tabled w) (hE:Plc.checkE s.c s.rs=0) (hm:mayB s.progs s.tl=true) :
   Calls Tryz.prog 6 #[s.val] w (fun e w'=>∃ f X',e=.returned (.tuple #[ptr f.wb,.bool true])∧BegunAt w s f X' w'):=by
 have hR:refE s=0:=refE_ok.2 ⟨hE,hm⟩
 have hw:0 < w.heap.size:=ht.1
 have HNEW:Hid (∀ w2 s',SameS s s'→SetupR w2 w2.heap.size s'→PlainS s'→Calls Tryz.prog 15 #[s'.val] w2 (MadePost w2 s')):=fun w2 s' h1 h2 h3=>New_made w2 s' h2 h3 (by rw [h1.c,h1.rs];exact hE) (by rw [may_same h1];exact hm)
 have HOF:=kH (fun (w2 w':World) (s':SetD) (p wb:Nat) (tv rv' pv':Value) (l:List ThrN) (FF:List Nat) (h1:Below w.heap.size w w2) (h2:SameS s s') (h3:SetupR w2 w2.heap.size s') hl S=>begun_of (w:=w) (w2:=w2) (w':=w') (s:=s) (s':=s') (p:=p) (wb:=wb) (tv:=tv) (rv':=rv') (pv':=pv') (l:=l) (FF:=FF) h1 hw ht h2 h3 hE hm hl S)
 have HCO:=kH (fun o=>copied_calls (w.alloc o) s ((hs.below (below_alloc w o)).up (by simp)))
 have HRF:=kH (fun (W:World) (hb:Below w.heap.size w W)=>Refuses_calls W s ((hs.below hb).up hb.size))
 rw [hR] at HRF
 obtain ⟨c,rv,rs,pv,progs,tv,tl⟩:=s
 unfold SetD.val at HCO HRF ⊢
 dsimp only at HCO HRF ⊢
 clear hs hE hR ht hm
 go_enter Tryz.func6,Tryz.ntmps6
 go_wp2_with fail
 refine (HCO.out _).mono ?_
 rintro e2 w2 ⟨s',rfl,hsame,hset,hpl,hb2⟩
 have HNW:=kH (HNEW.out w2 s' hsame hset hpl)
 unfold SetD.val at HNW
 dsimp only
 have hbw2:Below w.heap.size w w2:=(below_alloc w _).trans (hb2.mono (by simp))
 have hC2:=box_keep' hb2 (heap_new (w:=w) rfl)
 clear HCO HNEW
 go_wp2_with fail
 refine HNW.out.mono ?_
 rintro e3 w3 ⟨p,wb,tv',rv',pv',l,FF,rfl,hl,S⟩
 have hb3:=S.kept.below
 have hC:=box_keep' hb3 hC2
 have q0:=cell_of_row w3 w.heap.size 0 _ _ _ hC
 have q1:=cell_of_row w3 w.heap.size 1 _ _ _ hC
 have q2:=cell_of_row w3 w.heap.size 2 _ _ _ hC
 have q3:=cell_of_row w3 w.heap.size 3 _ _ _ hC
 have q4:=cell_of_row w3 w.heap.size 4 _ _ _ hC
 have q5:=cell_of_row w3 w.heap.size 5 _ _ _ hC
 have q6:=cell_of_row w3 w.heap.size 6 _ _ _ hC
 have q7:=cell_of_row w3 w.heap.size 7 _ _ _ hC
 have q8:=cell_of_row w3 w.heap.size 8 _ _ _ hC
 simp only [gA,gZ,gS] at q0 q1 q2 q3 q4 q5 q6 q7 q8
 have hlt:=heap_lt hC
 have HB:=kH (hbw2.trans (hb3.mono hbw2.size))
 have HMK:=kH (fun (w':World) (hb:Below w3.heap.size w3 w')=>HOF.out w2 w' s' p wb tv' rv' pv' l FF hbw2 hsame hset hl (S.below hb))
 clear hC hC2 hb3 hb2 hbw2 HNW hsame hset hpl S hl HOF
 unfold ptr
 go_wp2_with fail
 refine (HRF.out _ HB.out).mono ?_
 rintro e4 w4 ⟨rfl,hb4⟩
 obtain ⟨f,X',hf,hbeg⟩:=HMK.out _ hb4
 go_wp2
 go_ret2
 refine ⟨f,X',?_,hbeg⟩
 rw [hf]
 rfl
def BegPost (w:World) (s:SetD) (e:Ending) (w':World):Prop:=(refE s≠0∧e=.returned (.tuple #[.pointer none,.bool true])∧Below w.heap.size w w')∨(refE s=0∧∃ f X',e=.returned (.tuple #[ptr f.wb,.bool true])∧BegunAt w s f X' w')
theorem begun_calls (w:World) (s:SetD) (hs:SetupR w w.heap.size s) (ht:Cod.Tabled w):Calls Tryz.prog 6 #[s.val] w (BegPost w s):=by
 by_cases hE:Plc.checkE s.c s.rs=0
 · by_cases hm:mayB s.progs s.tl=true
   · refine (begun_yes w s hs ht hE hm).mono ?_
     rintro e w' h
     exact .inr ⟨refE_ok.2 ⟨hE,hm⟩,h⟩
   · have h1:refE s=1:=by unfold refE;rw [if_pos hE,if_neg hm]
     refine (begun_no w s hs 1 h1 (by decide) (fun w2 s' k1 k2 k3=>New_may w2 s' k2 (by rw [k1.c,k1.rs];exact hE) (by rw [may_same k1];simpa using hm))).mono ?_
     rintro e w' h
     exact .inl ⟨by rw [h1];decide,h⟩
 · have h1:refE s=Plc.checkE s.c s.rs:=by unfold refE;rw [if_neg hE]
   refine (begun_no w s hs _ h1 hE (fun w2 s' k1 k2 k3=>by
     have h:=New_config w2 s' k2 (by rw [k1.c,k1.rs];exact hE)
     rw [k1.c,k1.rs] at h
     exact h)).mono ?_
   rintro e w' h
   exact .inl ⟨by rw [h1];exact hE,h⟩
end
section
open Go.RowKit
variable {w0:World} {X:List Nat} {Cs Cs':List Comp} {w w':World} {f:FixW} {N:Nat} {d:WD}
theorem WAt.sub (h:WAt w0 X f Cs N d w) (hs:∀ As,Sep w0 X (As++Cs) w→Sep w0 X (As++Cs') w'):WAt w0 X f Cs' N d w':=by
 obtain ⟨ev,L,F,Ps,S,hthl,hcells,hok,hthr,hL,hev,hop,hst⟩:=h
 refine ⟨ev,L,F,Ps,?_,hthl,hcells,hok,hthr,hL,hev,hop,hst⟩
 have S1:Sep w0 X ((cMem f.mp d.m L F::cBlk f.wb (swO (f.sw ev d.opened d.steps))::cEv ev d.ev::flat Ps f.tbs.length)++Cs) w:=S
 exact hs _ S1
theorem WAt.alloc (h:WAt w0 X f Cs N d w) (o:Obj):WAt w0 X f Cs N d (w.alloc o):=h.sub fun _ S=>S.alloc o
theorem WAt.drewN (h:WAt w0 X f Cs N d w) (q:Nat):WAt w0 X f Cs N d (w.drewN q):=h.sub fun _ S=>S.drewN q
theorem WAt.new (h:WAt w0 X f Cs N d w) (o:Obj):WAt w0 X f (cBlk w.heap.size o::Cs) N d (w.alloc o):=h.sub fun As S=>(S.new o).push As
theorem WAt.drop {c:Comp} (h:WAt w0 X f (c::Cs) N d w):WAt w0 X f Cs N d w:=h.sub fun As S=>(Sep.pull As S).drop
theorem WAt.holds (h:WAt w0 X f Cs N d w) {c:Comp} (hc:c∈Cs):c.holds w:=by
 obtain ⟨ev,L,F,Ps,S,-⟩:=h
 exact S.holds c (List.mem_cons_of_mem _ (List.mem_cons_of_mem _ (List.mem_cons_of_mem _ (List.mem_append.2 (.inr hc)))))
theorem WAt.kept (h:WAt w0 X f Cs N d w):Kept X w0 w:=by
 obtain ⟨ev,L,F,Ps,S,-⟩:=h
 exact S.kept
theorem WAt.wOk (h:WAt w0 X f Cs N d w):WOk f.cfg d:=by
 obtain ⟨ev,L,F,Ps,S,-,-,hok,-⟩:=h
 exact hok
theorem WAt.evl (h:WAt w0 X f Cs N d w):d.ev.length≤N * 300:=by
 obtain ⟨ev,L,F,Ps,S,-,-,-,-,-,hev,-⟩:=h
 exact hev
theorem W_events (h:WAt w0 X f Cs N d w) (hN:N≤1048577) (n:Nat) (hn:n≤d.ev.length) :
   Calls Tryz.prog 8 #[ptr f.wb,.int .i64 n] w (fun e w'=>∃ ev,e=.returned ev∧WAt w0 X f (cEv ev (d.ev.drop n)::Cs) N d w'):=by
 obtain ⟨ev,L,F,Ps,S,hthl,hcells,hok,hthr,hL,hev,hop,hst⟩:=h
 have S1:Sep w0 X (cBlk f.wb (swO (f.sw ev d.opened d.steps))::cEv ev d.ev::cMem f.mp d.m L F::(flat Ps f.tbs.length++Cs)) w:=Sep.push [cBlk f.wb (swO (f.sw ev d.opened d.steps)),cEv ev d.ev] S
 refine (Sch_events (s:=f.sw ev d.opened d.steps) S1 n hn (by omega)).mono ?_
 rintro e w' ⟨ev',rfl,S2⟩
 refine ⟨ev',rfl,ev,L,F,Ps,?_,hthl,hcells,hok,hthr,hL,hev,hop,hst⟩
 have S3:Sep w0 X (cEv ev' (d.ev.drop n)::cBlk f.wb (swO (f.sw ev d.opened d.steps))::cEv ev d.ev::cMem f.mp d.m L F::(flat Ps f.tbs.length++Cs)) w':=S2
 have S4:Sep w0 X (cMem f.mp d.m L F::cEv ev' (d.ev.drop n)::cBlk f.wb (swO (f.sw ev d.opened d.steps))::cEv ev d.ev::(flat Ps f.tbs.length++Cs)) w':=Sep.pull [cEv ev' (d.ev.drop n),cBlk f.wb (swO (f.sw ev d.opened d.steps)),cEv ev d.ev] S3
 have S5:Sep w0 X (cEv ev' (d.ev.drop n)::(([cMem f.mp d.m L F,cBlk f.wb (swO (f.sw ev d.opened d.steps)),cEv ev d.ev]++flat Ps f.tbs.length)++Cs)) w':=by
   rw [List.append_assoc]
   exact S4.sw
 have S6:=Sep.push _ S5
 rw [List.append_assoc] at S6
 exact S6
theorem tkAll_at (at_ th:Int):∀ (l:List EvD) (s:TkS) (k:Nat) (y:EvT),(tkAll at_ th s l)[k]?=some y→y.thread=th∧l[k]?=some y.e
 | [],s,k,y,h=>by simp [tkAll] at h
 | e::l,s,0,y,h=>by
   simp only [tkAll,gZ,Option.some.injEq] at h
   subst h
   exact ⟨rfl,rfl⟩
 | e::l,s,k+1,y,h=>by
   simp only [tkAll,gS] at h
   obtain ⟨h1,h2⟩:=tkAll_at at_ th l _ k y h
   exact ⟨h1,by simpa using h2⟩
def endedB (l:List EvT):Bool:=l.any fun y=>decide (y.e.kind=5∨y.e.kind=6)
theorem ended_take {l:List EvT} {k:Nat} {y:EvT} (h:l[k]?=some y):endedB (l.take (k+1))=(endedB (l.take k) || decide (y.e.kind=5∨y.e.kind=6)):=by
 unfold endedB
 rw [List.take_add_one,h,List.any_append]
 simp
theorem mem_of_tk {at_ th:Int} {s:TkS} {l:List EvD} {y:EvT} (h:y∈tkAll at_ th s l):y.e∈l∧y.thread=th:=by
 obtain ⟨k,hk,rfl⟩:=List.getElem_of_mem h
 obtain ⟨h1,h2⟩:=tkAll_at at_ th l s k _ (List.getElem?_eq_getElem hk)
 exact ⟨List.mem_of_getElem? h2,h1⟩
structure ToldOk (a:AnsD) (th:Int) (T:List EvT):Prop where
 each:∀ y∈T,y.thread=th∧(y.e.kind=5∨y.e.kind=6→y.e.err=a.err∧(a.err=0↔a.kind=3))
 some:endedB T=true↔(a.kind=3∨a.kind=4)
 fail:a.kind=4↔a.err≠0
 still:(a.kind=0∨a.kind=1)→T=[]∨∃ y l,T=y::l∧y.e.kind=7
theorem told_ok {c:CfgD} {nj:Nat→Nat} {d d':WD} {i:Int} {a:AnsD} (hc:CfgOk c) (h:WOk c d) (hs:WStep c nj d i a d'):ToldOk a i (d'.ev.drop d.ev.length):=by
 obtain ⟨-,-,new,htell,s,hev⟩:=wstep_ok hc h hs
 rw [hev,List.drop_left]
 refine ⟨fun y hy=>?_,?_,htell.fail,fun hk=>?_⟩
 · obtain ⟨h1,h2⟩:=mem_of_tk hy
   refine ⟨h2,fun h56=>?_⟩
   obtain ⟨h3,h4⟩:=htell.each _ h1 h56
   exact ⟨h3,by rw [← h3];exact h4⟩
 · rw [← htell.some]
   unfold endedB
   rw [List.any_eq_true]
   constructor
   · rintro ⟨y,hy,hk⟩
     exact ⟨y.e,(mem_of_tk hy).1,by simpa using hk⟩
   · rintro ⟨e,he,hk⟩
     obtain ⟨k,hk',rfl⟩:=List.getElem_of_mem he
     have hl:=tkAll_len d.steps i new s
     have hk2:k < (tkAll d.steps i s new).length:=by omega
     obtain ⟨h1,h2⟩:=tkAll_at d.steps i new s k _ (List.getElem?_eq_getElem hk2)
     rw [List.getElem?_eq_getElem hk'] at h2
     injection h2 with h2
     exact ⟨_,List.getElem_mem hk2,by rw [← h2];simpa using hk⟩
 · rcases htell.still hk with h1 | ⟨e,l,h1,h2⟩
   · exact .inl (by rw [h1];rfl)
   · refine .inr ⟨_,_,by rw [h1];rfl,h2⟩
end
section
open Go.RowKit
variable {w0:World} {X:List Nat} {Cs:List Comp} {w:World}
theorem evCell_at:∀ (T:List EvT) (k j:Nat) (y:EvT) (u:Value),T[k]?=some y→(evL y)[j]?=some u→(evCells T)[k * 19+j]?=some u
 | [],k,j,y,u,h,_=>by simp at h
 | x::T,0,j,y,u,h,hu=>by
   simp only [gZ,Option.some.injEq] at h
   subst h
   have hj:=(List.getElem?_eq_some_iff.1 hu).1
   show (evL x++evCells T)[0 * 19+j]?=_
   rw [Nat.zero_mul,Nat.zero_add,List.getElem?_append_left hj]
   exact hu
 | x::T,k+1,j,y,u,h,hu=>by
   have ih:=evCell_at T k j y u (by simpa using h) hu
   show (evL x++evCells T)[(k+1) * 19+j]?=_
   have hl:(evL x).length=19:=rfl
   rw [List.getElem?_append_right (by rw [hl];omega),hl,show (k+1) * 19+j - 19=k * 19+j by omega]
   exact ih
theorem beq_iff_of {a b:Int} (h:a=0↔b=3):(a == 0)=(b == 3):=by
 rw [Bool.eq_iff_iff]
 simpa using h
def ansO4 (k e v:Int) (a:Bool):Obj:=.cells #[.int .i64 k,.int .i64 e,.int .i64 v,.bool a] 35 (0,0)
attribute [local go_sem] fill_one
attribute [local go_sem ↓] loadAt_ev storeAt_ev
attribute [local go_sem] loadEv_run loadEvM_run storeEv_new
theorem Tells_walk (w:World) (s:SetD) (lv:Value) (ls:List Int) (hs:SetupR w w.heap.size s) (hl:ReadsV w w.heap.size lv ls.length 1 (ints ls)) (hlen:ls.length≤1048576) (ht:Cod.Tabled w) :
   Calls Tryz.prog 5 #[s.val,lv] w (fun e w'=>e=.returned (.bool true)∧Below w.heap.size w w'):=by
 have HBG:=kH (fun o=>begun_calls (w.alloc o) s ((hs.below (below_alloc w o)).up (by simp)) (ht.below ht.1 (below_alloc w o)))
 have HLR:=kH (fun (W:World) (hb:Below w.heap.size w W)=>hl.below hb)
 obtain ⟨-,la,lc,hlv,hlc,-,-⟩:=hl
 subst hlv
 obtain ⟨c,rv,rs,pv,progs,tv,tl⟩:=s
 unfold SetD.val at HBG ⊢
 dsimp only at HBG ⊢
 obtain ⟨nl,hnl⟩:∃ n,ls.length=n:=⟨_,rfl⟩
 have HNL:=kH hnl
 rw [hnl] at hlen hlc HLR ⊢
 clear hs ht hnl
 go_enter Tryz.func5,Tryz.ntmps5
 go_wp2_with fail
 refine (HBG.out _).mono ?_
 rintro e1 w1 (⟨-,rfl,hb1⟩ | ⟨-,f,X',rfl,hbeg⟩)
 · go_wp2
   go_ret
   exact ⟨rfl,(below_alloc w _).trans (hb1.mono (by simp))⟩
 · have HBW:Hid (∀ W,Kept X' w1 W→Below w.heap.size w W):=fun W hk =>
     ((below_alloc w _).trans (hbeg.below.mono (by simp))).trans ((hk.belowN (Nat.le_trans (by simp) hbeg.below.size) (fun x hx=>Nat.le_trans (by simp) (hbeg.new x hx))))
   have HFX:=kH hbeg.fix
   have HW0:=kH hbeg.at_
   have HCF:Hid (CfgOk f.cfg):=(kOk_of (code:=.empty) (xs:=[]) hbeg.fix.check (by decide) (by decide) (fun _ h=>nomatch h)).cfg
   clear hbeg HBG
   unfold ptr
   go_wp2
   go_loopg [7,8] (nl+1) (fun n v7 v8 wr=>∃ (i:Nat) (d:WD),i≤nl∧v8=.int .i64 i∧v7=.int .i64 (d.ev.length:Nat)∧n+i=nl+1∧WAt w1 X' f [] i d wr)
   case atStart=>exact ⟨0,_,Nat.zero_le _,rfl,rfl,rfl,HW0.out⟩
   case round =>
     obtain ⟨i,d,hi,rfl,rfl,hn,hW⟩:=hrel
     have HN:=kH hn
     have hin:(i:Int)≤(nl:Int):=by omega
     clear hn HW0
     by_cases hlt:i < nl
     · obtain ⟨li,hli⟩:∃ li,ls[i]?=some li:=⟨ls[i]'(by have:=HNL.out;omega),List.getElem?_eq_getElem _⟩
       obtain ⟨-,a0,c0,hv0,-,-,hc0⟩:=HLR.out _ (HBW.out _ hW.kept)
       injection hv0 with hv1 hv2 hv3
       rcases hc0 with h | ⟨b,off,rfl,hbB,hcell⟩
       · omega
       subst hv1
       have HLI:Hid (∀ W,Kept X' w1 W→b < W.heap.size∧W.cell? ⟨b,off+i,none⟩=some (.int .i64 li)):=fun W hk=>by
         have hbw:=HBW.out _ hk
         obtain ⟨-,a0,c0,hv0,-,-,hc0⟩:=HLR.out _ hbw
         injection hv0 with hv1 hv2 hv3
         rcases hc0 with h | ⟨b',off',h',hb',hcell⟩
         · omega
         rw [h'] at hv1
         injection hv1 with hv1
         injection hv1 with e1 e2 e3
         subst e1 e2
         exact ⟨Nat.lt_of_lt_of_le hb' hbw.size,hcell i _ (by unfold ints;rw [List.getElem?_map,hli];rfl)⟩
       obtain ⟨hbs,l0⟩:=HLI.out _ hW.kept
       have hlt':(i:Int) < (nl:Int):=by omega
       have hlcI:(nl:Int)≤(lc:Int):=by omega
       have HST:=kH (W_step HFX.out hW (by omega) li)
       have HOK:=kH hW.wOk
       have HEL:=kH hW.evl
       clear hcell hv2 hv3 hli hW
       unfold ptr at HST
       go_wp2_with fail
       refine HST.out.mono ?_
       rintro e2 w2 ⟨⟨ak,ae,av,aa⟩,d',rfl,hstep,hW2⟩
       have HT:=kH (told_ok HCF.out HOK.out hstep)
       have hdl:d.ev.length≤d'.ev.length:=by
         obtain ⟨-,-,new,-,sk,hev⟩:=wstep_ok HCF.out HOK.out hstep
         rw [hev,List.length_append]
         omega
       have hel:=hW2.evl
       have HEV:=kH (W_events (hW2.new (ansO4 ak ae av aa)) (by omega) d.ev.length hdl)
       have HDL:=kH hdl
       unfold AnsD.val
       dsimp only
       clear hW2 hstep HST l0 hbs hdl
       unfold ansO4 ptr at HEV
       go_wp2_with fail
       refine HEV.out.mono ?_
       rintro e3 w3 ⟨ev,rfl,hW3⟩
       generalize w2.heap.size=bx at *
       obtain ⟨T,hT⟩:∃ T,d'.ev.drop d.ev.length=T:=⟨_,rfl⟩
       rw [hT] at hW3 HT
       have hTl:d'.ev.length=d.ev.length+T.length:=by
         rw [← hT,List.length_drop]
         have:=HDL.out
         omega
       have HTL:=kH hTl
       have hrow:RowAt w3 44 19 ev T.length (evCells T):=hW3.holds List.mem_cons_self
       obtain ⟨eo,ec,rfl,hec,-⟩:=hrow.slice
       obtain ⟨nt,hnt⟩:∃ n,T.length=n:=⟨_,rfl⟩
       have HNT:=kH hnt
       have HW3:=kH hW3
       have hntb:nt≤1000000000:=by omega
       have hdb:d.ev.length≤1000000000:=by have:=HEL.out;omega
       clear hrow HEV hT hTl hW3 hel
       rw [hnt] at hec ⊢
       obtain ⟨nd,hnd⟩:∃ n,d.ev.length=n:=⟨_,rfl⟩
       have HND:=kH hnd
       rw [hnd] at hdb ⊢
       clear hnd hnt
       have hwr:IntKind.i64.wrap ((nd:Int)+(nt:Int))=(nd:Int)+(nt:Int):=IntWalk.i64_in _ (by omega)
       go_wp2
       go_loopg [11,12] (nt+1) (fun n v11 v12 ws=>∃ (k:Nat),k≤nt∧v12=.int .i64 k∧v11=.bool (endedB (T.take k))∧n+k=nt+1∧WAt w1 X' f (cEv (.slice eo nt ec) T::cBlk bx (ansO4 ak ae av aa)::[]) (i+1) d' ws)
       case atStart=>exact ⟨0,Nat.zero_le _,rfl,rfl,rfl,by have h:=HW3.out;rw [HNT.out] at h;exact h⟩
       case round =>
         obtain ⟨k,hk,rfl,rfl,hn,hW⟩:=hrel
         have HN3:=kH hn
         have HW:=kH hW
         have hans:wr.heap[bx]?=some (ansO4 ak ae av aa):=hW.holds (List.mem_cons_of_mem _ List.mem_cons_self)
         have a0:=cell_of_row wr bx 0 _ _ _ hans
         have a1:=cell_of_row wr bx 1 _ _ _ hans
         simp only [gA,gZ,gS] at a0 a1
         have hltb:=heap_lt hans
         have hrow:RowAt wr 44 19 (.slice eo nt ec) T.length (evCells T):=hW.holds List.mem_cons_self
         obtain ⟨hbs,l0⟩:=HLI.out _ hW.kept
         have hkn:(k:Int)≤(nt:Int):=by omega
         clear hn hans HW3
         by_cases hltk:k < nt
         · obtain ⟨y,hy⟩:∃ y,T[k]?=some y:=⟨T[k]'(by have:=HNT.out;omega),List.getElem?_eq_getElem _⟩
           obtain ⟨hth,hov⟩:=HT.out.each y (List.mem_of_getElem? hy)
           have HEN:=kH (ended_take hy)
           rcases hrow.parts with ⟨-,h2,-⟩ | ⟨g,cap,hv,-,-,hg,hec2⟩
           · have:=HNT.out
             omega
           injection hv with hv1 hv2 hv3
           subst hv1
           have hev:EvMid wr g (k * 19) (evL y):=⟨fun j u hu=>hec2 _ u (evCell_at T k j y u hy hu),rfl⟩
           obtain ⟨kd,hkd⟩:∃ z,y.e.kind=z:=⟨_,rfl⟩
           obtain ⟨er,her⟩:∃ z,y.e.err=z:=⟨_,rfl⟩
           rw [hkd] at hov HEN
           rw [her] at hov
           have q1:(evL y)[1]?=some (.int .i64 li):=by rw [← hth];rfl
           have q3:(evL y)[3]?=some (.int .i64 kd):=by rw [← hkd];rfl
           have q18:(evL y)[18]?=some (.int .i64 er):=by rw [← her];rfl
           have hecs:EvCs (evL y):=⟨rfl,evL_one _⟩
           generalize evL y=cs at *
           have HQ:=kH (And.intro q1 (And.intro q3 q18))
           have hltk':(k:Int) < (nt:Int):=by omega
           have hecI:(nt:Int)≤(ec:Int):=by omega
           clear hrow hec2 hv2 hv3 hy hth hkd her y hW q1 q3 q18
           obtain ⟨ed,hed⟩:∃ e,endedB (T.take k)=e:=⟨_,rfl⟩
           rw [hed] at HEN ⊢
           clear hed
           obtain ⟨over,hover⟩:∃ o,decide (kd=5∨kd=6)=o:=⟨_,rfl⟩
           have HOV:Hid (over=true→er=ae∧(ae=0↔ak=3)):=fun h=>hov (by rw [← hover] at h;simpa using h)
           rw [hover] at HEN
           have HVR:=kH hover
           clear hover hov
           go_upto_region 16 with (fail)
           have hWE:=HW.out.new (.cells cs.toArray 44 (0,0))
           generalize hW5:wr.alloc _=W5 at *
           generalize wr.heap.size=be at *
           have hbe:W5.heap[be]?=some (.cells cs.toArray 44 (0,0)):=hWE.holds List.mem_cons_self
           have x1:=cell_of_row W5 be 1 _ _ _ hbe
           have x3:=cell_of_row W5 be 3 _ _ _ hbe
           have x18:=cell_of_row W5 be 18 _ _ _ hbe
           have hans:W5.heap[bx]?=some (ansO4 ak ae av aa):=hWE.holds (List.mem_cons_of_mem _ (List.mem_cons_of_mem _ List.mem_cons_self))
           have b0:=cell_of_row W5 bx 0 _ _ _ hans
           have b1:=cell_of_row W5 bx 1 _ _ _ hans
           simp only [gA,HQ.out.1,HQ.out.2.1,HQ.out.2.2] at x1 x3 x18
           simp only [gA,gZ,gS] at b0 b1
           have hlte:=heap_lt hbe
           have hltb5:=heap_lt hans
           obtain ⟨hbs5,l5⟩:=HLI.out _ hWE.kept
           have HWE:=kH hWE
           clear hWE hbe hans hW5 hev hecs a0 a1 l0 hltb hbs hg HW
           go_cut [14] from 46 to 93 (fun v14 wc=>v14=.bool over∧wc=W5)
           case first =>
             rcases (show kd=5∨kd=6∨(¬ kd=5∧¬ kd=6) by omega) with rfl | rfl | ⟨h5,h6⟩
             · have HV:Hid (over=true):=HVR.out.symm.trans (by decide)
               go_wp2
               go_meet
               case rel=>exact ⟨by rw [HV.out],rfl⟩
             · have HV:Hid (over=true):=HVR.out.symm.trans (by decide)
               go_wp2
               go_meet
               case rel=>exact ⟨by rw [HV.out],rfl⟩
             · have HV:Hid (over=false):=HVR.out.symm.trans (by simp [h5,h6])
               have h5':(kd == 5)=false:=by simp [h5]
               have h6':(kd == 6)=false:=by simp [h6]
               clear h5 h6
               go_wp2
               go_meet
               case rel=>exact ⟨by rw [HV.out],rfl⟩
           case rest =>
             obtain ⟨rfl,rfl⟩:=hcut
             go_upto_region 17 with (fail)
             go_cut [11] from 46 to 93 (fun v11 wd=>v11=.bool (ed || over)∧wd=wc)
             case first =>
               cases ed <;> cases over
               all_goals
                 go_wp2
                 go_meet
                 case rel=>exact ⟨rfl,rfl⟩
             case rest =>
               obtain ⟨rfl,rfl⟩:=hcut
               obtain ⟨b3,hb3⟩:∃ b,(ak == 3)=b:=⟨_,rfl⟩
               cases over with
               | true =>
                 obtain ⟨hera,hiff⟩:=HOV.out rfl
                 have hq0:(ae == 0)=b3:=(beq_iff_of hiff).trans hb3
                 rw [hera] at x18
                 clear hera hiff HVR HOV
                 go_upto_region 18 with (fail)
                 go_quiet (fail)
                 go_wp2
                 go_roundg (nt - k)
                 case measure=>have:=HN3.out;omega
                 case rel=>exact ⟨k+1,by omega,by go_num,by rw [HEN.out],by have:=HN3.out;omega,(HWE.out.drop).drewN _⟩
               | false =>
                 clear HVR HOV
                 go_upto_region 18 with (fail)
                 go_quiet (fail)
                 go_wp2
                 go_roundg (nt - k)
                 case measure=>have:=HN3.out;omega
                 case rel=>exact ⟨k+1,by omega,by go_num,by rw [HEN.out],by have:=HN3.out;omega,(HWE.out.drop).drewN _⟩
         · obtain rfl:k=nt:=by omega
           have hET:endedB (T.take k)=true↔(ak=3∨ak=4):=by
             rw [List.take_of_length_le (by have:=HNT.out;omega)]
             exact HT.out.some
           have hfail:ak=4↔ae≠0:=HT.out.fail
           have HSTL:=kH (show (ak=0∨ak=1)→T=[]∨∃ y l,T=y::l∧y.e.kind=7 from HT.out.still)
           have HV7:Hid (((d'.ev.length:Nat):Int)=(nd:Int)+(k:Int)):=by
             show ((d'.ev.length:Nat):Int)=_
             rw [HTL.out,HND.out,HNT.out]
             omega
           have HROW:Hid (RowAt wr 44 19 (.slice eo k ec) T.length (evCells T)):=hrow
           obtain ⟨E,hE⟩:∃ E,endedB (T.take k)=E:=⟨_,rfl⟩
           rw [hE] at hET ⊢
           clear hE hW hrow l0 hbs HT
           rcases (show ak=3∨ak=4∨ak=0∨ak=1∨(¬ ak=3∧¬ ak=4∧¬ ak=0∧¬ ak=1) by omega) with rfl | rfl | rfl | rfl | ⟨h3,h4,h0,h1⟩
           · obtain rfl:E=true:=hET.2 (.inl rfl)
             have hae:ae=0:=by
               by_cases h:ae=0
               · exact h
               · exact absurd (hfail.2 h) (by decide)
             subst hae
             clear hET hfail
             go_wp2
             go_roundg (nl - i)
             case measure=>have:=HN.out;omega
             case rel=>exact ⟨i+1,d',by omega,by go_num,by rw [HV7.out],by have:=HN.out;omega,HW.out.drop.drop⟩
           · obtain rfl:E=true:=hET.2 (.inr rfl)
             have hae:(ae == 0)=false:=by simpa using hfail.1 rfl
             have hae2:(ae != 0)=true:=by simpa using hfail.1 rfl
             have hae3:¬ ae=0:=hfail.1 rfl
             clear hET hfail
             go_wp2
             go_roundg (nl - i)
             case measure=>have:=HN.out;omega
             case rel=>exact ⟨i+1,d',by omega,by go_num,by rw [HV7.out],by have:=HN.out;omega,HW.out.drop.drop⟩
           · obtain rfl:E=false:=by
               cases E with
               | false=>rfl
               | true=>rcases hET.1 rfl with h | h <;> exact absurd h (by decide)
             have hae:ae=0:=by
               by_cases h:ae=0
               · exact h
               · exact absurd (hfail.2 h) (by decide)
             subst hae
             clear hET hfail
             rcases HSTL.out (.inl rfl) with hT0 | ⟨y,l,hT0,hk7⟩
             · have hk0:k=0:=by rw [← HNT.out,hT0];rfl
               have hk0':((k:Nat):Int)=0:=by omega
               have hk0'':¬ (0:Int) < ((k:Nat):Int):=by omega
               clear hT0 hk0
               go_wp2
               go_roundg (nl - i)
               case measure=>have:=HN.out;omega
               case rel=>exact ⟨i+1,d',by omega,by go_num,by rw [HV7.out,hk0',Int.add_zero],by have:=HN.out;omega,HW.out.drop.drop⟩
             · rcases HROW.out.parts with ⟨-,h2,-⟩ | ⟨g,cap,hv,-,-,hg,hec2⟩
               · rw [hT0] at h2
                 simp at h2
               · injection hv with hv1 hv2 hv3
                 subst hv1
                 have hk7':wr.cell? ⟨g,3,none⟩=some (.int .i64 7):=hec2 3 _ (by rw [hT0,← hk7];rfl)
                 have hk0:0 < k:=by rw [← HNT.out,hT0];simp
                 have hk0':(0:Int) < ((k:Nat):Int):=by omega
                 have hecI:((k:Nat):Int)≤(ec:Int):=by omega
                 clear hT0 hk7 hec2 hv2 hv3 hk0
                 go_wp2
                 go_roundg (nl - i)
                 case measure=>have:=HN.out;omega
                 case rel=>exact ⟨i+1,d',by omega,by go_num,by rw [HV7.out],by have:=HN.out;omega,HW.out.drop.drop⟩
           · obtain rfl:E=false:=by
               cases E with
               | false=>rfl
               | true=>rcases hET.1 rfl with h | h <;> exact absurd h (by decide)
             have hae:ae=0:=by
               by_cases h:ae=0
               · exact h
               · exact absurd (hfail.2 h) (by decide)
             subst hae
             clear hET hfail
             rcases HSTL.out (.inr rfl) with hT0 | ⟨y,l,hT0,hk7⟩
             · have hk0:k=0:=by rw [← HNT.out,hT0];rfl
               have hk0':((k:Nat):Int)=0:=by omega
               have hk0'':¬ (0:Int) < ((k:Nat):Int):=by omega
               clear hT0 hk0
               go_wp2
               go_roundg (nl - i)
               case measure=>have:=HN.out;omega
               case rel=>exact ⟨i+1,d',by omega,by go_num,by rw [HV7.out,hk0',Int.add_zero],by have:=HN.out;omega,HW.out.drop.drop⟩
             · rcases HROW.out.parts with ⟨-,h2,-⟩ | ⟨g,cap,hv,-,-,hg,hec2⟩
               · rw [hT0] at h2
                 simp at h2
               · injection hv with hv1 hv2 hv3
                 subst hv1
                 have hk7':wr.cell? ⟨g,3,none⟩=some (.int .i64 7):=hec2 3 _ (by rw [hT0,← hk7];rfl)
                 have hk0:0 < k:=by rw [← HNT.out,hT0];simp
                 have hk0':(0:Int) < ((k:Nat):Int):=by omega
                 have hecI:((k:Nat):Int)≤(ec:Int):=by omega
                 clear hT0 hk7 hec2 hv2 hv3 hk0
                 go_wp2
                 go_roundg (nl - i)
                 case measure=>have:=HN.out;omega
                 case rel=>exact ⟨i+1,d',by omega,by go_num,by rw [HV7.out],by have:=HN.out;omega,HW.out.drop.drop⟩
           · obtain rfl:E=false:=by
               cases E with
               | false=>rfl
               | true=>rcases hET.1 rfl with h | h <;> omega
             have hae:ae=0:=by
               by_cases h:ae=0
               · exact h
               · exact absurd (hfail.2 h) h4
             subst hae
             have h3':(ak == 3)=false:=by simp [h3]
             have h4':(ak == 4)=false:=by simp [h4]
             have h0':(ak == 0)=false:=by simp [h0]
             have h1':(ak == 1)=false:=by simp [h1]
             clear hET hfail h3 h4 h0 h1
             go_wp2
             go_roundg (nl - i)
             case measure=>have:=HN.out;omega
             case rel=>exact ⟨i+1,d',by omega,by go_num,by rw [HV7.out],by have:=HN.out;omega,HW.out.drop.drop⟩
     · obtain rfl:i=nl:=by omega
       have hbf:=HBW.out _ hW.kept
       clear hW
       go_wp2
       go_ret
       exact ⟨rfl,hbf⟩
end
end Go.Proofs.YtgfogfciobmmpaaGreatDoor
namespace Go.Proofs.YtgfogfciobmmpaaGreatDoor
open Go Go.RowKit Go.ChangeShapes Go.WideShapes Go.ChangeAt
theorem gShapes:Tryz.prog.globalNamed "carousel/code.shapes"=some 0:=by kernel_rfl
theorem tShapes:(Tryz.prog.globals[0]?).map (·.type)=some 175:=by kernel_rfl
def laidL:List (String×DataW Unit):=[("carousel/code.shapes",Rows.laid_carousel_code_shapes)]
theorem door_met (os:Os) (args:Array Value):laidMetH Tryz.prog laidL ((World.doorLaid Tryz.prog 400 os).forCall (fun _ _=>0) ⟨#[],args,[]⟩).memory :=
 laidMetH_of_parts3 (fuel:=8) (laidMet_of_run' 8 (by kernel_rfl) (by kernel_rfl)) (by kernel_rfl) (by kernel_rfl)
theorem laid_list:(Rows.laid_carousel_code_shapes:DataW Unit)=.agg (Cod.shapeT.map fun (n:Nat)=>.lit (.int .u8 (n:Int))):=rfl
theorem tabled_of_laid {W:World} (h:laidMetH Tryz.prog laidL W):Cod.Tabled W:=by
 rw [MakeChecks.laidMetH_plain _ _ _ (by kernel_rfl)] at h
 obtain ⟨ps,⟨g0,t0,cs0,f0,p0,q0,hg0,ht0,hv0,hd0,_⟩,_⟩:=h
 obtain rfl:=Option.some.inj (gShapes.symm.trans hg0)
 obtain rfl:=Option.some.inj (tShapes.symm.trans ht0)
 obtain ⟨xs,m1,rfl,hx1,hlen,hn,hel⟩:=DataW.trod_array Tryz.underlying175 hd0
 have c1:Tryz.prog.cellsOf 5=1:=by kernel_rfl
 have hcell:∀ i,i < 41→W.cell? ⟨0,i,none⟩=some (.int .u8 (Cod.shapeN i:Int)):=by
   intro i hi
   have h1:=hel i hi
   rw [c1] at h1
   have hxi:xs[i]?=some (xs[i]'(by omega)):=List.getElem?_eq_getElem (by omega)
   rw [hxi] at h1
   obtain ⟨k,e1,e2,_⟩:=DataW.trod_int Tryz.underlying5 h1
   have hcs:=World.var?_cell hg0 hv0 i
   have hd:(xs.map (·.1))[i]?=(Cod.shapeT.map fun (n:Nat)=>(DataW.lit (.int .u8 (n:Int)):DataW Unit))[i]?:=by
     rw [laid_list] at hx1
     simp only [Prod.mk.injEq,DataW.agg.injEq] at hx1
     rw [hx1.1]
   rw [List.getElem?_map,List.getElem?_map,hxi,e2] at hd
   have hsh:Cod.shapeT[i]?=some (Cod.shapeN i):=by
     have:i < Cod.shapeT.length:=by simpa [Cod.shapeT] using hi
     rw [List.getElem?_eq_getElem this]
     simp [Cod.shapeN,List.getD_eq_getElem?_getD,this]
   rw [hsh] at hd
   have hk:k=(Cod.shapeN i:Int):=by simpa using hd
   subst hk
   rw [hcs]
   have e3:(cs0.toList.drop (i * 1)).take 1=[Value.int .u8 (Cod.shapeN i:Int)]:=e1
   rw [Nat.mul_one] at e3
   have e4:cs0.toList[i]?=some (Value.int .u8 (Cod.shapeN i:Int)):=by
     have:=congrArg (fun l=>l[0]?) e3
     simpa using this
   simpa using e4
 exact ⟨by have:=World.block_lt_of_cell? W _ (hcell 0 (by omega));simpa using this,hcell⟩
theorem open_nums {H:Type} {enc:TypeId×Value→H} {w:World} {r:Reach} {b0:Nat} {v:Value} {d:DataW H} {p:List MemPlace}
   (hv:Value.okWide Tryz.prog w r b0 29 v) (h:DataW.Trod enc Tryz.prog w 0 (fun _=>true) true 29 v d p) (hf:Plc.Fits Tryz.prog 29 d) :
   ∃ xs:List Int,ReadsV w w.heap.size v xs.length 1 (ints xs)∧xs.length≤Rows.uptoBulk d:=by
 obtain ⟨a0,len0,cap0,rfl⟩:=okWide_slice Tryz.underlying29 hv
 obtain ⟨fuel,h⟩:=h
 have h':DataW.trod enc Tryz.prog w 0 (fun _=>true) true fuel 29 [.slice a0 len0 cap0]=some (d,p):=by simpa [Value.cells] using h
 obtain ⟨l,h1,-,-⟩:=open_elems (α:=Int) (by':=8) (sz:=1) Tryz.underlying29 (by kernel_rfl) (by kernel_rfl) (by decide) (by decide) (fun z=>[.int .i64 z]) (fun _=>rfl) (fun _=>True) (fun cs n y hl hy _=>by
   match cs,hl with
   | [c0],_ =>
     obtain ⟨z,e,-,hw⟩:=DataW.trod_int Tryz.underlying3 hy
     simp at e
     exact ⟨z,by rw [e],trivial⟩) h' hf
 refine ⟨l,by rw [flat_one] at h1;exact h1,?_⟩
 obtain ⟨-,a,c,hs,-⟩:=h1
 injection hs with e1 e2 e3
 rcases Go.Deep.open_slice Tryz.underlying29 h' with ⟨h0,hx⟩ | ⟨a,len,cap,m,n,D,Pl,hcs,_,hl,hm,hmm,hx,hi⟩
 · simp at h0
   omega
 · simp at hcs
   obtain ⟨k1,k2,k3⟩:=hcs
   injection hx with hd _
   subst hd
   have h2:=bulk_len ((List.range len).map D)
   simp only [List.length_map,List.length_range] at h2
   simp only [Rows.uptoBulk]
   omega
end Go.Proofs.YtgfogfciobmmpaaGreatDoor
namespace Go.Proofs.YtgfogfciobmmpaaGreatDoor.topTells
open Go Go.RowKit Go.ChangeShapes Go.WideShapes Go.ChangeAt
def zeroS:Value:=.agg #[.int .i64 0,.int .i64 0,.int .i64 0,.int .i64 0,.bool false,.int .i64 0,.slice none 0 0,.slice none 0 0,.slice none 0 0]
theorem contract (H:Type) (enc:TypeId×Value→H) (W:World) (base:Nat) (args:Array Value) (ds gs:List (DataW H)) (before:List MemPlace)
   (hval0:∀ (j:Nat) t v,Tryz.f5.params[j]?=some t→args[j]?=some v→Value.okWide Tryz.prog W .any base t v)
   (hW:DataW.Whole enc Tryz.prog Tryz.f5.params.toList Rows.topTellsSpec.vars false W args.toList ds gs before) (hk:Rows.uptoSmall H (ds++gs)=true)
   (hsz0:(DataW.weightsEach Tryz.prog (Tryz.f5.params.toList++Rows.topTellsSpec.plain.varTypes Tryz.prog) (ds++gs)).all (·≤reachBytes)=true) (hL:laidMetH Tryz.prog laidL W) :
   Calls Tryz.prog 5 args W fun e W'=>∃ v,e=.returned v∧Rows.topTellsSpec.post enc Tryz.prog Tryz.f5 false true false false W args v W':=by
 have hval:∀ (j:Nat) t v,Tryz.f5.params[j]?=some t→args[j]?=some v→Value.okWide Tryz.prog W .any base t v:=hval0
 have hW':=hW
 obtain ⟨p,q,hA0,hV,rfl,hfz,hnd⟩:=hW
 have hA:DataW.TrodAll enc Tryz.prog W 0 (fun _=>true) true Tryz.f5.params.toList args.toList ds p:=hA0
 have hsz:=hsz0
 rw [Tryz.params5] at hA hval hsz
 obtain ⟨v0,vs0,d0,ds0,p0,q0,hargs,rfl,rfl,h0,r0⟩:=trodAll_cons hA
 obtain ⟨v1,vs1,d1,ds1,p1,q1,rfl,rfl,rfl,h1,r1⟩:=trodAll_cons r0
 obtain ⟨rfl,rfl,rfl⟩:=trodAll_nil r1
 obtain rfl:args=#[v0,v1]:=by cases args;simp_all
 obtain ⟨rfl,rfl⟩:=trodVars_none hV
 have lt0:∀ x∈p0,x.block < W.heap.size:=by obtain ⟨m,hm⟩:=h0;exact DataW.trod_lt m _ _ _ hm
 have lt1:∀ x∈p1,x.block < W.heap.size:=by obtain ⟨m,hm⟩:=h1;exact DataW.trod_lt m _ _ _ hm
 obtain ⟨s,rfl,hs⟩:=open_setup (hval 0 28 v0 rfl rfl) h0 (Plc.fits_each hsz (j:=0) rfl rfl)
 obtain ⟨ls,hl,hb⟩:=open_nums (hval 1 29 v1 rfl rfl) h1 (Plc.fits_each hsz (j:=1) rfl rfl)
 have hlen:ls.length≤1048576:=by
   have h2:=bulk_two hk
   omega
 clear hA0 hval0 hsz0
 refine (Tells_walk W s v1 ls hs hl hlen (tabled_of_laid hL)).mono fun e W' ⟨he,bel⟩=>?_
 subst he
 exact ⟨_,rfl,_,_,_,[],_,[],hW',trodAll_mk1 (shut_bool Tryz.underlying4 _),(trodAll_cons_mk (Below.trod Plc.laidOut (by kernel_rfl) (of_decide_eq_true (by kernel_rfl)) h0 bel lt0) (trodAll_cons_mk (Below.trod Plc.laidOut (by kernel_rfl) (of_decide_eq_true (by kernel_rfl)) h1 bel lt1) trodAll_mk0)),rfl,bel.frame _,fun h=>by cases h⟩
theorem reads (os:Os) {H:Type} (enc:TypeId×Value→H):∃ places,DataW.whole enc Tryz.prog ((World.doorLaid Tryz.prog 400 os).forCall (fun _ _=>0) ⟨#[],#[zeroS,.slice none 0 0],[]⟩).memory Tryz.f5.params.toList Rows.topTellsSpec.vars false #[zeroS,.slice none 0 0].toList 8 =
   some ([.agg [.agg [.lit (.int .i64 0),.lit (.int .i64 0),.lit (.int .i64 0),.lit (.int .i64 0),.lit (.bool false),.lit (.int .i64 0),.nil],.nil,.nil],.nil],[],places) :=
 ⟨[],by kernel_rfl⟩
theorem lifted (os:Os) (started:os.Started) (H:Type) (enc:TypeId×Value→H) (F:Stop.Interp) :
   ReturnsInHanded {} Tryz.checked os 5 .any ((Rows.OpenSpec.upto Rows.topTellsSpec).preRow enc Tryz.prog Tryz.f5 Rows.topTellsUptoRow.domain false Rows.topTellsUptoRow.laid) (((Rows.OpenSpec.upto Rows.topTellsSpec).at F).post enc Tryz.prog Tryz.f5 false true false false):=by
 obtain ⟨places,hx⟩:=reads os enc
 refine returnsInHanded_of_row (C:=Tryz.checked) (s:=Rows.OpenSpec.upto Rows.topTellsSpec) Plc.own started (by kernel_rfl) Tryz.func5
   (witness_row_at (enc:=enc) (C:=Tryz.checked) false (World.doorLaid Tryz.prog 400 os) #[zeroS,.slice none 0 0] rfl (by kernel_rfl) (by kernel_rfl) (by kernel_rfl)
     (OpenSpec.preRow_of_cond 8 hx (by kernel_rfl) (fun k hk=>by cases hk;kernel_rfl) (by kernel_rfl) (door_met os _))) ?_
 intro W base args ds gs before hval hW _ hcond hsz hL _ _
 exact contract H enc W base args ds gs before hval hW (hcond _ rfl) hsz hL
theorem over:Rows.TopTellsUptoSaid :=
 OpenClaim.holds_of_cond 5 Tryz.f5 rfl rfl rfl rfl rfl rfl rfl ⟨rfl,rfl,rfl,rfl,rfl⟩ rfl rfl rfl rfl rfl (by kernel_rfl) Tryz.func5 (by kernel_rfl)
   (of_decide_eq_true (by kernel_rfl)) (by unfold Func.isWrapper;first | (rw [if_pos (by decide +kernel)];kernel_rfl) | (rw [if_neg (by decide +kernel)];exact ⟨rfl,rfl⟩))
   (fun os started H enc _ F=>by rw [OpenClaim.pre_eq_preRow];exact lifted os started H enc F)
theorem proved:Rows.TopTellsUptoCardSaid :=
 Claim7.holds_tied_plain_at .later [] _ _ _ _
   over (fun _ h=>by cases h) (by kernel_rfl) (fun _ h=>by cases h) topTellsUpto_row_tie rfl ⟨rfl,rfl⟩ (by kernel_rfl) rfl
   (fun f fn hf hfn=>by
     obtain rfl:f=5:=Option.some.inj ((show Tryz.prog.funcNamed "carousel/carouseltop.TopTells"=some 5 by kernel_rfl).symm.trans hf) |>.symm
     obtain rfl:fn=Tryz.f5:=(Option.some.inj (Tryz.func5.symm.trans hfn)).symm
     exact ⟨by kernel_rfl,fun j t ht=>by
       rw [Tryz.params5] at ht
       have hm:t∈[28,29]:=by simpa using Array.mem_of_getElem? ht
       have hall:([28,29].all fun u=>!Tryz.prog.wantsStandIn u)=true:=by kernel_rfl
       exact (show Tryz.prog.wantsStandIn t=false by simpa using List.all_eq_true.1 hall t hm)⟩)
   (by kernel_rfl)
#print axioms proved
end Go.Proofs.YtgfogfciobmmpaaGreatDoor.topTells
