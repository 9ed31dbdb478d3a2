/- A part of the proof of a law of carouseltop: Tx Tab SigEq Job Facts Facts2 CodCBase CodCLeaf PlcPSize PlcPCheck Blk Bits Ref1 SigM Ref2. -/
import Derived.Test.YtgfogfciobmmpaaGreatDoorBAa
import Derived.ChangeKeysEq
import Derived.WalkKit
import Derived.Lib.Hide
import Derived.Laws.BitsAllLaws
import Derived.Laws.BitsLemmas
import Derived.Test.YtgfogfciobmmpaaGreatDoorProg
import Derived.KernelRfl
import Derived.BigQuiet
import Derived.Deep.QuietTactic
import Derived.Outline
import Derived.Deep.LoopGhost
import Derived.Test.YtgfogfciobmmpaaGreatDoorRows
import Derived.WalkMore
import Derived.Laws.Tables
import Derived.Laws.CopyOwn
import Derived.Deep.WholeRow
import Derived.Deep.MidRow
import Derived.Deep.CutRange
import Derived.BigRegion
set_option linter.unusedSimpArgs false
set_option linter.unusedVariables false
set_option maxRecDepth 100000
set_option maxHeartbeats 8000000
namespace Go.Proofs.YtgfogfciobmmpaaGreatDoor
open Go.RowKit
theorem q9(m:au)(c:eD):(aE m c).2.from_=c.from_/\(aE m c).2.reads=c.reads/\(aE m c).2.last=c.last:=by
 unfold aE
 repeat' split
 all_goals exact⟨rfl,rfl,rfl⟩
theorem Da(m:au)(x:lL):(bj m x).2.chk.from_=x.chk.from_/\(bj m x).2.chk.reads=x.chk.reads/\(bj m x).2.chk.last=x.chk.last:=by
 unfold bj
 split
 ·exact⟨rfl,rfl,rfl⟩
 ·exact q9 m x.chk
theorem Do(m:au)(c:iG):(aT m c).2.1.start=c.start/\(aT m c).2.1.reads=c.reads/\(aT m c).2.1.stamps=c.stamps/\(aT m c).2.1.multi=c.multi /\
  ((aT m c).2.1.state=0->(c.state=0/\(aT m c).2.1.chk.from_=c.chk.from_/\(aT m c).2.1.chk.reads=c.chk.reads/\(aT m c).2.1.chk.last=c.chk.last) \/
   ((aT m c).2.1.chk.from_=c.start/\(aT m c).2.1.chk.reads=c.reads/\(aT m c).2.1.chk.last=false)):=by
 obtain⟨k1,k2,k3⟩:=q9 m c.chk
 unfold aT
 generalize aE m c.chk=R at *
 obtain⟨a,d⟩:=R
 simp only at *
 split
 ·refine⟨rfl,rfl,rfl,rfl,fun h=>?_⟩
  exfalso
  rename_i h3
  simp only at h
  omega
 ·split
  ·rename_i h0
   split
   ·exact⟨rfl,rfl,rfl,rfl,fun h=>absurd (show(4:Int)=0 from h) (by decide)⟩
   ·split
    ·split
     ·exact⟨rfl,rfl,rfl,rfl,fun h=>absurd (show(4:Int)=0 from h) (by decide)⟩
     ·split
      ·exact⟨rfl,rfl,rfl,rfl,fun h=>absurd (show(1:Int)=0 from h) (by decide)⟩
      ·exact⟨rfl,rfl,rfl,rfl,fun h=>absurd (show(2:Int)=0 from h) (by decide)⟩
    ·exact⟨rfl,rfl,rfl,rfl,fun _=>.inl ⟨h0,k1,k2,k3⟩⟩
  ·rename_i h0
   split
   ·by_cases hg:(if c.multi=true then gF (m.head (c.seen+1)) (c.seen+1) c.ring else dq (m.head c.seen) c.seen)=true
    ·rw[if_pos hg]
     exact⟨rfl,rfl,rfl,rfl,fun h=>absurd (show(2:Int)=0 from h) (by decide)⟩
    ·rw[if_neg hg]
     exact⟨rfl,rfl,rfl,rfl,fun h=>absurd h h0⟩
   ·split
    ·exact⟨rfl,rfl,rfl,rfl,fun h=>absurd (show(3:Int)=0 from h) (by decide)⟩
    ·exact⟨rfl,rfl,rfl,rfl,fun _=>.inr ⟨rfl,rfl,rfl⟩⟩
theorem qv(b:cR):(cW b).stamp=b.stamp/\(cW b).multi=b.multi/\(cW b).sig=b.sig:=⟨rfl,rfl,rfl⟩
theorem md(b:cR)(s:Int):(dj b s).stamp=b.stamp/\(dj b s).multi=b.multi/\(dj b s).sig=b.sig:=by
 unfold dj
 split<;>exact⟨rfl,rfl,rfl⟩
theorem gH(b:cR)(j:Nat):(cV b j).stamp=b.stamp/\(cV b j).multi=b.multi/\(cV b j).sig=b.sig:=by
 unfold cV
 split
 ·exact⟨rfl,rfl,rfl⟩
 ·exact md _ _
theorem rh(m:au)(b:cR):(aR m b).2.1.stamp=b.stamp/\(aR m b).2.1.multi=b.multi/\(aR m b).2.1.sig=b.sig:=by
 unfold aR
 split
 ·split
  ·exact⟨rfl,rfl,rfl⟩
  ·simp only
   split
   ·exact qv b
   ·exact md b _
 ·split
  ·exact⟨rfl,rfl,rfl⟩
  ·split
   ·exact gH b _
   ·exact⟨rfl,rfl,rfl⟩
 ·split
  ·exact⟨rfl,rfl,rfl⟩
  ·exact gH b _
 ·split<;>exact⟨rfl,rfl,rfl⟩
 ·exact⟨rfl,rfl,rfl⟩
 ·split<;>exact⟨rfl,rfl,rfl⟩
 ·exact⟨rfl,rfl,rfl⟩
 ·exact⟨rfl,rfl,rfl⟩
structure cN where
 ring:Int
 writes:Int
 stamps:Int
 multi:Bool
structure co(c:cN):Prop where
 ring:1<=c.ring/\c.ring<=16
 writes:1<=c.writes/\c.writes<=24
 stamps:1<=c.stamps/\c.stamps<=1099511627776
def kc(t:bZ)(m:au):Prop :=
 match t.way with
 | .no=>t.phase=0\/t.phase=2
 | .beg b=>t.phase=1/\wZ b t.ring
 | .fet x=>t.phase=3/\ry x m t.ring/\x.chk.from_=t.start/\x.chk.reads=t.reads/\x.chk.last=true
 | .com c=>t.phase=4/\kU c t.ring/\c.start=t.start/\c.reads=t.reads/\c.stamps=t.stamps/\c.multi=t.multi/\(c.state=0->c.chk.from_=t.start/\c.chk.reads=t.reads/\c.chk.last=false)/\t.list≠[]
 | .bak b=>t.phase=5/\fo b m t.ring/\b.stamp=t.stamp/\b.multi=t.multi/\b.sig=dZ t.list
structure dM(c:cN)(t:bZ)(m:au):Prop where
 cfg:t.ring=c.ring/\t.writes=c.writes/\t.stamps=c.stamps/\t.multi=c.multi
 mring:m.ring=c.ring
 list:rr t.list m.cells.length
 len:(t.list.length:Int)<=t.writes
 nodup:(t.list.map (·.1)).Nodup
 wrote:aU t.wrote
 reads:aU t.reads
 start:0<=t.start/\aI t.start
 seen:aI t.seen
 stamp:aI t.stamp
 cell:0<=t.cell/\t.cell<=1024
 told:∀ e∈t.told,aI e.value/\aI e.start/\aI e.seen/\aI e.stamp/\aU e.sig/\(0<=e.err/\e.err<=14)/\(0<=e.kind/\e.kind<=7)/\(0<=e.cell/\e.cell<=1024)
 way:kc t m
def rz(e:bM):Prop:=aI e.value/\aI e.start/\aI e.seen/\aI e.stamp/\aU e.sig/\(0<=e.err/\e.err<=14)/\(0<=e.kind/\e.kind<=7)/\(0<=e.cell/\e.cell<=1024)
theorem eh{l:List bM}(h:∀ e∈l,rz e){e:bM}(he:rz e):∀ x∈l++[e],rz x:=fun x hx=>by
 rcases List.mem_append.1 hx with h'|h'
 ·exact h x h'
 ·rw[List.mem_singleton.1 h'];exact he
theorem aK:aI 0:=by unfold aI;omega
theorem lS(k cell v:Int)(own:Bool)(s n st:Int)(sg:List Int)(e:Int)(h1:aI v)(h2:aI s)(h3:aI n)(h4:aI st)(h5:aU sg)(h6:0<=e/\e<=14)(h7:0<=k/\k<=7)(h8:0<=cell/\cell<=1024):rz ⟨k,cell,v,own,s,n,st,sg,e⟩ :=
 ⟨h1,h2,h3,h4,h5,h6,h7,h8⟩
theorem dM.mem{c:cN}{t:bZ}{m m':au}(h:dM c t m)(hr:m'.ring=m.ring)(hc:m'.cells.length=m.cells.length):dM c t m':=by
 refine⟨h.cfg,hr.trans h.mring,by rw[hc];exact h.list,h.len,h.nodup,h.wrote,h.reads,h.start,h.seen,h.stamp,h.cell,h.told,?_⟩
 have hw:=h.way
 unfold kc at *
 split
 ·rename_i e;rw[e]at hw;exact hw
 ·rename_i e;rw[e]at hw;exact hw
 ·rename_i e;rw[e]at hw
  obtain⟨h1,⟨k1,k2,k3,k4⟩,h3⟩:=hw
  exact⟨h1,⟨k1,by rw[hc];exact k2,k3,k4⟩,h3⟩
 ·rename_i e;rw[e]at hw;exact hw
 ·rename_i e;rw[e]at hw
  obtain⟨h1,⟨k1,k2,k3,k4,k5,k6,k7,k8,k9,k10,k11,k12,k13,k14⟩,h3⟩:=hw
  exact⟨h1,⟨k1,k2,k3,by rw[hc];exact k4,k5,k6,k7,k8,k9,k10,k11,k12,k13,k14⟩,h3⟩
theorem uH{c:cN}(hc:co c){m:au}(hm:m.ring=c.ring):dM c (cZ c.ring c.writes c.stamps c.multi) m :=
 ⟨⟨rfl,rfl,rfl,rfl⟩,hm,(fun x hx=>nomatch hx),by have:=hc.writes;simp[cZ];omega,by simp[cZ],cD,cD,⟨Int.le_refl _,aK⟩,aK,aK,by simp[cZ],(fun e he=>nomatch he),.inl rfl⟩
inductive jx(t:bZ):aM->List bM->bZ->Prop
 | on {a t'}:a=moved\/a=waits->t'.phase=t.phase->t'.way≠.no->jx t a [] t'
 | live {v e t'}:(t.phase=1\/t.phase=3)->aI v->(e.kind=1\/e.kind=2)->t'.phase=2->jx t (aW v) [e] t'
 | pub {e t'}:t.phase=4->e.kind=4->t'.phase=5->jx t moved [e] t'
 | done {e t'}:t.phase=5->e.kind=5->e.err=0->t'.phase=0->jx t (aW 0) [e] t'
 | fail {r e t'}:(r=3\/r=4\/r=6)->e.kind=6->e.err=r->t'.phase=0->jx t (bi r) [e] t'
theorem qb{c:cN}{t:bZ}{m:au}(hcfg:t.ring=c.ring/\t.writes=c.writes/\t.stamps=c.stamps/\t.multi=c.multi)(hw:0<=t.writes)(hm:m.ring=c.ring)(hs:aI t.stamp)(hcell:0<=t.cell/\t.cell<=1024)(ht:∀ e∈t.told,rz e):dM c (gu t) m :=
 ⟨hcfg,hm,(fun x hx=>nomatch hx),by simpa[gu]using hw,by simp[gu],cD,cD,⟨Int.le_refl _,aK⟩,aK,hs,hcell,ht,.inl rfl⟩
theorem iJ{c:cN}{t:bZ}{m:au}(hc:co c)(hm:aY m)(h:dM c t m)(hw:t.way≠.no) :
  ∃ new,jx t (aP m t).1 new (aP m t).2.1/\(aP m t).2.1.told=t.told++new/\dM c (aP m t).2.1 (aP m t).2.2/\aY (aP m t).2.2/\(aP m t).2.2.ring=m.ring/\(aP m t).2.2.cells.length=m.cells.length:=by
 obtain⟨ring,writes,stamps,multi,list,wrote,phase,start,seen,reads,cell,stamp,way,told⟩:=t
 obtain⟨⟨g1,g2,g3,g4⟩,hmr,hlist,hlen,hnd,hwr,hrd,hst,hse,hsp,hce,htd,hway⟩:=h
 simp only at g1 g2 g3 g4 hlist hlen hnd hwr hrd hst hse hsp hce htd hw
 have hwp:=hc.writes
 have hov:∀ (t':bZ),t'.ring=ring->t'.writes=writes->t'.stamps=stamps->t'.multi=multi->t'.stamp=stamp->t'.cell=cell->(∀ e∈t'.told,rz e)->∀ m',m'.ring=m.ring->dM c (gu t') m' :=
  fun t' e1 e2 e3 e4 e5 e6 ht m' hm'=>qb ⟨by omega,by omega,by omega,by rw[e4,g4]⟩ (by omega) (by omega) (by rw[e5];exact hsp) (by rw[e6];exact hce) ht
 have hend:∀ r,(r=3\/r=4\/r=6)->rz {fd with kind:=6,err:=r,start:=start,seen:=seen,sig:=reads}:=fun r hr =>
  lS _ _ _ _ _ _ _ _ _ aK hst.2 hse aK hrd (by omega) (by decide) (by decide)
 match way,hway,hw with
 | .no,_,hw=>exact absurd rfl hw
 | .beg b,hway,_ =>
  obtain⟨hp,hb⟩:=hway
  simp only at hp hb
  have hs:=nE hm hb
  unfold aP eF
  simp only
  generalize bU m b=R at *
  obtain⟨a,b'⟩:=R
  simp only at hs
  rcases hs with⟨rfl,k⟩|⟨rfl,k1,k2,k3,k4⟩
  ·exact⟨[],.on (.inl rfl) rfl (by simp[moved]),by simp[moved],⟨⟨g1,g2,g3,g4⟩,hmr,hlist,hlen,hnd,hwr,hrd,hst,hse,hsp,hce,htd,⟨hp,k⟩⟩,hm,by trivial,by trivial⟩
  ·exact⟨[_],.live (.inl hp) aK (.inl rfl) rfl,rfl,⟨⟨g1,g2,g3,g4⟩,hmr,hlist,hlen,hnd,hwr,hrd,⟨k2,k3⟩,k4,hsp,hce,eh htd (lS _ _ _ _ _ _ _ _ _ aK k3 k4 aK cD (by decide) (by decide) (by decide)),.inr rfl⟩,hm,by trivial,by trivial⟩
 | .fet x,hway,_ =>
  obtain⟨hp,hx,e1,e2,e3⟩:=hway
  simp only at hp hx e1 e2 e3
  have hs:=qT hm hx
  have hk:=Da m x
  unfold aP eF
  simp only
  generalize bj m x=R at *
  obtain⟨a,x'⟩:=R
  simp only at hs hk
  cases hs with
  | moved k=>exact⟨[],.on (.inl rfl) rfl (by simp[moved]),by simp[moved],⟨⟨g1,g2,g3,g4⟩,hmr,hlist,hlen,hnd,hwr,hrd,hst,hse,hsp,hce,htd,⟨hp,k,hk.1.trans e1,hk.2.1.trans e2,hk.2.2.trans e3⟩⟩,hm,by trivial,by trivial⟩
  | waits k=>exact⟨[],.on (.inr rfl) rfl (by simp[waits]),by simp[waits],⟨⟨g1,g2,g3,g4⟩,hmr,hlist,hlen,hnd,hwr,hrd,hst,hse,hsp,hce,htd,⟨hp,k,hk.1.trans e1,hk.2.1.trans e2,hk.2.2.trans e3⟩⟩,hm,by trivial,by trivial⟩
  | done v kv k2 k3 k4=>exact⟨[_],.live (.inr hp) kv (.inr rfl) rfl,rfl,⟨⟨g1,g2,g3,g4⟩,hmr,hlist,hlen,hnd,hwr,hrd,⟨k2,k3⟩,k4,hsp,hce,eh htd (lS _ _ _ _ _ _ _ _ _ kv k3 k4 aK cD (by decide) (by decide) hce),.inr rfl⟩,hm,by trivial,by trivial⟩
  | @fail e _ k =>
   have hr:e=3\/e=4\/e=6:=by omega
   refine⟨[{fd with kind:=6,err:=e,start:=start,seen:=seen,sig:=reads}],?_,?_,?_,hm,by trivial,by trivial⟩
   rotate_left
   ·show(de _ e _).2.told=_
    rfl
   ·show dM c (de _ e _).2 m
    exact hov _ rfl rfl rfl rfl rfl rfl (eh htd (hend e hr)) m rfl
   ·show jx _ (de _ e _).1 _ (de _ e _).2
    unfold de
    rw[if_neg (show ¬e=0 by omega)]
    exact .fail hr rfl rfl rfl
 | .com x,hway,_ =>
  obtain⟨hp,hx,e1,e2,e3,e4,e5,e6⟩:=hway
  simp only at hp hx e1 e2 e3 e4 e5 e6
  have hs:=qY hm hx
  have hk:=Do m x
  unfold aP eF
  simp only
  generalize aT m x=R at *
  obtain⟨a,x',m'⟩:=R
  simp only at hs hk
  have hk5:x'.state=0->x'.chk.from_=start/\x'.chk.reads=reads/\x'.chk.last=false:=fun h0=>by
   rcases hk.2.2.2.2 h0 with⟨h1,h2,h3,h4⟩|⟨h2,h3,h4⟩
   ·obtain⟨q1,q2,q3⟩:=e5 h1
    exact⟨h2.trans q1,h3.trans q2,h4.trans q3⟩
   ·exact⟨h2.trans e1,h3.trans e2,h4⟩
  cases hs with
  | moved k=>exact⟨[],.on (.inl rfl) rfl (by simp[moved]),by simp[moved],⟨⟨g1,g2,g3,g4⟩,hmr,hlist,hlen,hnd,hwr,hrd,hst,hse,hsp,hce,htd,⟨hp,k,hk.1.trans e1,hk.2.1.trans e2,hk.2.2.1.trans e3,hk.2.2.2.1.trans e4,hk5,e6⟩⟩,hm,rfl,rfl⟩
  | waits k=>exact⟨[],.on (.inr rfl) rfl (by simp[waits]),by simp[waits],⟨⟨g1,g2,g3,g4⟩,hmr,hlist,hlen,hnd,hwr,hrd,hst,hse,hsp,hce,htd,⟨hp,k,hk.1.trans e1,hk.2.1.trans e2,hk.2.2.1.trans e3,hk.2.2.2.1.trans e4,hk5,e6⟩⟩,hm,rfl,rfl⟩
  | done s k1 k2 k3 k4 =>
   have hs64:aI s:=by unfold aI;omega
   refine⟨[_],.pub hp rfl rfl,rfl,⟨⟨g1,g2,g3,g4⟩,hmr,hlist,hlen,hnd,hwr,hrd,hst,hse,hs64,hce,eh htd (lS _ _ _ _ _ _ _ _ _ aK aK aK hs64 hwr (by decide) (by decide) (by decide)),⟨rfl,?_,rfl,rfl,rfl⟩⟩,hm.setNew hs64,rfl,rfl⟩
   refine⟨rfl,⟨k1,k3⟩,by simp only[cX];omega,hlist,kr _,rfl,Nat.le_refl _,by simp[cX],by simp[cX],fun h=>by simp[cX]at h,aK,by simp[cX],fun h=>by simp[cX]at h,fun h=>by simp[cX]at h⟩
  | @fail e _ k =>
   refine⟨[{fd with kind:=6,err:=e,start:=start,seen:=seen,sig:=reads}],?_,?_,?_,hm,by trivial,by trivial⟩
   rotate_left
   ·show(de _ e _).2.told=_
    rfl
   ·show dM c (de _ e _).2 m
    exact hov _ rfl rfl rfl rfl rfl rfl (eh htd (hend e k)) m rfl
   ·show jx _ (de _ e _).1 _ (de _ e _).2
    unfold de
    rw[if_neg (show ¬e=0 by omega)]
    exact .fail k rfl rfl rfl
 | .bak b,hway,_ =>
  obtain⟨hp,hb,e1,e2,e3⟩:=hway
  simp only at hp hb e1 e2 e3
  have hs:=nF hm hb
  have hk:=rh m b
  unfold aP eF
  simp only
  generalize aR m b=R at *
  obtain⟨a,b',m'⟩:=R
  simp only at hs hk
  cases hs with
  | moved k h1 h2 h3 h4=>exact⟨[],.on (.inl rfl) rfl (by simp[moved]),by simp[moved],⟨⟨g1,g2,g3,g4⟩,h2.trans hmr,by rw[h3];exact hlist,hlen,hnd,hwr,hrd,hst,hse,hsp,hce,htd,⟨hp,k,hk.1.trans e1,hk.2.1.trans e2,hk.2.2.trans e3⟩⟩,h1,h2,h3⟩
  | waits k=>exact⟨[],.on (.inr rfl) rfl (by simp[waits]),by simp[waits],⟨⟨g1,g2,g3,g4⟩,hmr,hlist,hlen,hnd,hwr,hrd,hst,hse,hsp,hce,htd,⟨hp,k,hk.1.trans e1,hk.2.1.trans e2,hk.2.2.trans e3⟩⟩,hm,rfl,rfl⟩
  | done h1 h2 h3 h4 =>
   refine⟨[_],.done hp rfl rfl rfl,rfl,hov _ rfl rfl rfl rfl rfl rfl (eh htd (lS _ _ _ _ _ _ _ _ _ aK aK aK hsp cD (by decide) (by decide) (by decide))) _ h2,h1,h2,h3⟩
theorem Bi{m:au}{c:iG}(h0:c.state=0)(h1:c.chk.state=0):(aT m c).1≠waits:=by
 have hk:=Bj (m:=m) h1
 unfold aT
 rw[if_neg (by omega),if_pos h0]
 split
 ·exact hk
 ·split
  ·split
   ·simp[bi,waits]
   ·split<;>simp[moved,waits]
  ·exact hk
theorem lz{l:List (Int×Int)}{c:Int}(h:(eR l c).isNone=true):∀ x∈l,x.1≠c:=fun x hx e=>by
 unfold eR at h
 simp only[Option.isNone_map,Option.isNone_iff_eq_none,List.find?_eq_none]at h
 exact h x hx (by simpa using e)
theorem gU{l:List (Int×Int)}{c v:Int}(h:∀ x∈l,x.1≠c):fT l c v=l++[(c,v)]:=by
 unfold fT
 rw[if_neg]
 simp only[List.any_eq_true,not_exists,not_and]
 intro x hx
 simpa using h x hx
theorem gT{l:List (Int×Int)}{c v:Int}(h:(eR l c).isNone=false):fT l c v=l.map (fun w=>if w.1=c then(c,v)else w):=by
 unfold fT
 rw[if_pos]
 unfold eR at h
 simp only[Option.isNone_map]at h
 rw[List.any_eq_true]
 cases hf:l.find? (fun w=>w.1 == c)with
 | none=>rw[hf]at h;simp at h
 | some y=>exact⟨y,List.mem_of_find?_eq_some hf,List.find?_some (p:=fun(w:Int×Int)=>w.1 == c) hf⟩
theorem gM(l:List (Int×Int))(c v:Int):(l.map (fun w=>if w.1=c then(c,v)else w)).map (·.1)=l.map (·.1):=by
 rw[List.map_map]
 apply List.map_congr_left
 intro x _
 simp only[Function.comp]
 split
 ·rename_i e;exact e.symm
 ·rfl
theorem qA{l:List (Int×Int)}{c v:Int}(h:eR l c=some v):(c,v)∈l:=by
 unfold eR at h
 cases hf:l.find? (fun w=>w.1 == c)with
 | none=>rw[hf]at h;simp at h
 | some y =>
  rw[hf]at h
  simp at h
  have h1:=List.mem_of_find?_eq_some hf
  have h2:(y.1 == c)=true:=List.find?_some (p:=fun(w:Int×Int)=>w.1 == c) hf
  simp at h2
  obtain⟨a,b⟩:=y
  simp at h h2
  subst h h2
  exact h1
inductive nQ(x:es)(t:bZ):aM->List bM->bZ->Prop
 | opened {e a new t0 t'}:x.kind=1->e.kind=7->t0.phase=1->jx t0 a new t'->nQ x t a (e::new) t'
 | own {v e t'}:x.kind=2->e.kind=2->aI v->t'.phase=2->t'.way=.no->nQ x t ⟨3,0,v,false⟩ [e] t'
 | read {t'}:x.kind=2->t'.phase=3->t'.way≠.no->nQ x t moved [] t'
 | wrote {e t'}:x.kind=3->e.kind=3->t'.phase=2->t'.way=.no->nQ x t ⟨3,0,0,false⟩ [e] t'
 | big {e t'}:x.kind=3->e.kind=6->e.err=5->t'.phase=0->nQ x t ⟨4,5,0,false⟩ [e] t'
 | empty {e t'}:x.kind=4->e.kind=6->e.err=0->t'.phase=0->nQ x t ⟨3,0,0,false⟩ [e] t'
 | commit {a new t0 t'}:x.kind=4->t0.phase=4->a≠waits->jx t0 a new t'->nQ x t a new t'
 | abort {e t'}:x.kind=5->(x.code=8\/x.code=7)->e.kind=6->e.err=x.code->t'.phase=0->nQ x t ⟨4,x.code,0,false⟩ [e] t'
theorem oR{c:cN}{t:bZ}{m:au}{x:es}(hc:co c)(hm:aY m)(h:dM c t m)(hw:t.way=.no)(hf:cz m t x=true)(hx:aI x.value) :
  ∃ new,nQ x t (cB m t x).1 new (cB m t x).2.1/\(cB m t x).2.1.told=t.told++new/\dM c (cB m t x).2.1 (cB m t x).2.2/\aY (cB m t x).2.2/\(cB m t x).2.2.ring=m.ring/\(cB m t x).2.2.cells.length=m.cells.length:=by
 obtain⟨ring,writes,stamps,multi,list,wrote,phase,start,seen,reads,cell,stamp,way,told⟩:=t
 have hO:=h
 obtain⟨⟨g1,g2,g3,g4⟩,hmr,hlist,hlen,hnd,hwr,hrd,hst,hse,hsp,hce,htd,hway⟩:=h
 simp only at g1 g2 g3 g4 hlist hlen hnd hwr hrd hst hse hsp hce htd hw
 subst hw
 have hwp:=hc.writes
 have hcl:=hm.cells
 have hend:∀ (t':bZ) r,(0<=r/\r<=14)->t'.ring=ring->t'.writes=writes->t'.stamps=stamps->t'.multi=multi->t'.stamp=stamp->t'.cell=cell->t'.told=told->t'.start=start->t'.seen=seen->t'.reads=reads ->
   dM c (gu (bO t' {fd with kind:=6,err:=r,start:=t'.start,seen:=t'.seen,sig:=t'.reads})) m:=fun t' r hr e1 e2 e3 e4 e5 e6 e7 e8 e9 e10 =>
  qb ⟨by show t'.ring=_;omega,by show t'.writes=_;omega,by show t'.stamps=_;omega,by show t'.multi=_;rw[e4,g4]⟩ (by show 0<=t'.writes;omega) hmr (by show aI t'.stamp;rw[e5];exact hsp) (by show 0<=t'.cell/\t'.cell<=1024;rw[e6];exact hce)
   (eh (by rw[e7];exact htd) (lS _ _ _ _ _ _ _ _ _ aK (by rw[e8];exact hst.2) (by rw[e9];exact hse) aK (by rw[e10];exact hrd) hr (by decide) (by decide)))
 have hfn:¬cz m ⟨ring,writes,stamps,multi,list,wrote,phase,start,seen,reads,cell,stamp,.no,told⟩ x=false:=by rw[hf];simp
 unfold cz at hf
 simp only[Bool.and_eq_true,decide_eq_true_eq]at hf
 obtain⟨-,hf⟩:=hf
 unfold cB
 rw[if_neg hfn]
 by_cases h1:x.kind=1
 ·rw[if_pos h1]at hf ⊢
  simp only[decide_eq_true_eq]at hf
  subst hf
  have hk:dM c (bO ⟨ring,writes,stamps,multi,list,wrote,1,start,seen,reads,cell,stamp,.beg ⟨ring,0,0,0⟩,told⟩ {fd with kind:=7}) m :=
   ⟨⟨g1,g2,g3,g4⟩,hmr,hlist,hlen,hnd,hwr,hrd,hst,hse,hsp,hce,eh htd (lS _ _ _ _ _ _ _ _ _ aK aK aK aK cD (by decide) (by decide) (by decide)),⟨rfl,rfl,.inl rfl,aK,aK,fun h=>by simp at h⟩⟩
  obtain⟨new,k1,k2,k3,k4⟩:=iJ hc hm hk (by simp[bO])
  refine⟨{fd with kind:=7}::new,.opened h1 rfl rfl k1,?_,k3,k4⟩
  rw[k2]
  simp[bO]
 rw[if_neg h1]at hf ⊢
 by_cases h2:x.kind=2
 ·rw[if_pos (.inl h2)]at hf
  rw[if_pos h2]
  simp only[decide_eq_true_eq]at hf
  obtain⟨hp,hc0,hc1⟩:=hf
  subst hp
  split
  ·rename_i v hv
   have hmem:=hlist _ (qA hv)
   exact⟨[_],.own h2 rfl hmem.2.2 rfl rfl,rfl,⟨⟨g1,g2,g3,g4⟩,hmr,hlist,hlen,hnd,hwr,hrd,hst,hse,hsp,hce,eh htd (lS _ _ _ _ _ _ _ _ _ hmem.2.2 hst.2 hse aK cD (by decide) (by decide) ⟨hc0,by omega⟩),.inr rfl⟩,hm,rfl,rfl⟩
  ·have hfst:∀ (k:eD) (rd:List Int),aP m ⟨ring,writes,stamps,multi,list,wrote,3,start,seen,rd,x.cell,stamp,.fet ⟨k,x.cell,false,0⟩,told⟩=(moved,⟨ring,writes,stamps,multi,list,wrote,3,start,seen,rd,x.cell,stamp,.fet ⟨k,x.cell,true,m.cells.getD x.cell.toNat 0⟩,told⟩,m):=fun k rd=>by
    simp[aP,eF,bj,moved]
   rw[hfst]
   refine⟨[],.read h2 rfl (by simp),by simp,?_,hm,rfl,rfl⟩
   refine⟨⟨g1,g2,g3,g4⟩,hmr,hlist,hlen,hnd,hwr,cF hrd _,hst,hse,hsp,⟨hc0,by simp only;omega⟩,htd,⟨rfl,⟨jP true hst.1 hst.2 (cF hrd _),⟨hc0,hc1⟩,nh hm.c64 _,fun h=>by simp at h⟩,rfl,rfl,rfl⟩⟩
 rw[if_neg h2]
 by_cases h3:x.kind=3
 ·rw[if_pos (.inr h3)]at hf
  rw[if_pos h3]
  simp only[decide_eq_true_eq]at hf
  obtain⟨hp,hc0,hc1⟩:=hf
  subst hp
  by_cases hb:(eR list x.cell).isNone=true/\(list.length:Int)=writes
  ·rw[if_pos hb]
   refine⟨[_],?_,rfl,hend _ 5 (by decide) rfl rfl rfl rfl rfl rfl rfl rfl rfl rfl,hm,rfl,rfl⟩
   unfold de
   rw[if_neg (by decide)]
   exact .big h3 rfl rfl rfl
  ·rw[if_neg hb]
   refine⟨[_],.wrote h3 rfl rfl rfl,rfl,?_,hm,rfl,rfl⟩
   have hev:rz {fd with kind:=3,cell:=x.cell,value:=x.value}:=lS _ _ _ _ _ _ _ _ _ hx aK aK aK cD (by decide) (by decide) ⟨hc0,by omega⟩
   cases ho:(eR list x.cell).isNone with
   | true =>
    have hne:=lz ho
    have hlt:(list.length:Int)≠writes:=fun e=>hb ⟨ho,e⟩
    refine⟨⟨g1,g2,g3,g4⟩,hmr,?_,?_,?_,cF hwr _,hrd,hst,hse,hsp,hce,eh htd hev,.inr rfl⟩
    ·show rr (fT list x.cell x.value) _
     rw[gU hne]
     intro y hy
     rcases List.mem_append.1 hy with hy|hy
     ·exact hlist y hy
     ·rw[List.mem_singleton.1 hy];exact⟨hc0,hc1,hx⟩
    ·show((fT list x.cell x.value).length:Int)<=writes
     rw[gU hne]
     simp
     omega
    ·show((fT list x.cell x.value).map (·.1)).Nodup
     rw[gU hne]
     simp only[List.map_append,List.map_cons,List.map_nil]
     rw[List.nodup_append]
     refine⟨hnd,by simp,fun a ha b hb e=>?_⟩
     simp at hb
     obtain⟨y,hy,rfl⟩:=List.mem_map.1 ha
     exact hne y hy (e.trans hb)
   | false =>
    refine⟨⟨g1,g2,g3,g4⟩,hmr,?_,?_,?_,cF hwr _,hrd,hst,hse,hsp,hce,eh htd hev,.inr rfl⟩
    ·show rr (fT list x.cell x.value) _
     rw[gT ho]
     intro y hy
     obtain⟨z,hz,rfl⟩:=List.mem_map.1 hy
     split
     ·exact⟨hc0,hc1,hx⟩
     ·exact hlist z hz
    ·show((fT list x.cell x.value).length:Int)<=writes
     rw[gT ho,List.length_map]
     exact hlen
    ·show((fT list x.cell x.value).map (·.1)).Nodup
     rw[gT ho,gM]
     exact hnd
 rw[if_neg (by omega)]at hf
 rw[if_neg h3]
 by_cases h4:x.kind=4
 ·rw[if_pos h4]at hf ⊢
  simp only[decide_eq_true_eq]at hf
  subst hf
  by_cases hl:list=[]
  ·rw[if_pos hl]
   refine⟨[_],?_,rfl,hend _ 0 (by decide) rfl rfl rfl rfl rfl rfl rfl rfl rfl rfl,hm,rfl,rfl⟩
   unfold de
   rw[if_pos rfl]
   exact .empty h4 rfl rfl rfl
  ·rw[if_neg hl]
   have hk:dM c ⟨ring,writes,stamps,multi,list,wrote,4,start,seen,reads,cell,stamp,.com ⟨ring,stamps,multi,start,0,reads,bJ ring start reads false,0,0⟩,told⟩ m:=by
    have hss:=hc.stamps
    refine⟨⟨g1,g2,g3,g4⟩,hmr,hlist,hlen,hnd,hwr,hrd,hst,hse,hsp,hce,htd,⟨rfl,⟨rfl,by simp only;omega,hst.1,hst.2,hrd,by simp,fun _=>jP false hst.1 hst.2 hrd,fun h=>absurd rfl h⟩,rfl,rfl,rfl,rfl,fun _=>⟨rfl,rfl,rfl⟩,hl⟩⟩
   obtain⟨new,k1,k2,k3,k4⟩:=iJ hc hm hk (by simp)
   refine⟨new,.commit h4 rfl ?_ k1,k2,k3,k4⟩
   simp only[aP,eF]
   have hcw:=Bi (m:=m) (c:=⟨ring,stamps,multi,start,0,reads,bJ ring start reads false,0,0⟩) rfl rfl
   generalize aT m ⟨ring,stamps,multi,start,0,reads,bJ ring start reads false,0,0⟩=R at *
   split
   ·unfold de
    simp only
    split<;>simp[waits]
   ·split
    ·simp[waits]
    ·exact hcw
 rw[if_neg h4]at hf ⊢
 by_cases h5:x.kind=5
 ·rw[if_pos h5]at hf
  simp only[decide_eq_true_eq]at hf
  obtain⟨hp,hco⟩:=hf
  subst hp
  refine⟨[_],?_,rfl,hend _ x.code (by omega) rfl rfl rfl rfl rfl rfl rfl rfl rfl rfl,hm,rfl,rfl⟩
  unfold de
  rw[if_neg (by omega)]
  exact .abort h5 hco rfl rfl rfl
 ·rw[if_neg h5]at hf
  simp at hf
def gv(sh:Nat)(c:Int):Nat:=(fZ c*11400714819323198485%18446744073709551616/2 ^ sh).toNat
def fM(N h e:Nat):Nat:=(h+e)%N
structure rm(sl:List Int)(cells:List Int)(sh:Nat):Prop where
 vals:∀ k,k<sl.length->sl.getD k 0 = -1\/(0<=sl.getD k 0/\sl.getD k 0<cells.length)
 path:∀ (i:Nat) (c:Int),cells[i]?=some c->∃ d,d<sl.length/\sl.getD (fM sl.length (gv sh c) d) 0=(i:Int)/\∀ e,e<d->sl.getD (fM sl.length (gv sh c) e) 0≠-1
 count:sl.countP (fun v=>decide (v≠-1))=cells.length
 room:cells.length<sl.length
inductive wW(sl:List Int)(cells:List Int)(sh:Nat)(c:Int):Nat->Bool->Prop
 | yes {k:Nat} {i:Nat}:k<sl.length->sl.getD k 0=(i:Nat)->cells[i]?=some c->wW sl cells sh c k true
 | no {k}:k<sl.length->sl.getD k 0 = -1->c∉cells->(∃ d,d<sl.length/\k=fM sl.length (gv sh c) d/\∀ e,e<d->sl.getD (fM sl.length (gv sh c) e) 0≠-1)->wW sl cells sh c k false
theorem tE{N h e:Nat}(hN:0<N):fM N h e<N:=Nat.mod_lt _ hN
theorem AD{N h e:Nat}:(fM N h e+1)%N=fM N h (e+1):=by
 unfold fM
 rw[Nat.mod_add_mod,Nat.add_assoc]
theorem yA{sl:List Int}(h:∀ k,k<sl.length->sl.getD k 0≠-1):sl.countP (fun v=>decide (v≠-1))=sl.length:=by
 rw[List.countP_eq_length]
 intro a ha
 obtain⟨k,hk,rfl⟩:=List.getElem_of_mem ha
 have:=h k hk
 rw[List.getD_eq_getElem?_getD,List.getElem?_eq_getElem hk]at this
 simpa using this
theorem BY{sl cells:List Int}{sh:Nat}(h:rm sl cells sh)(h0:Nat)(hall:∀ e,e<sl.length->sl.getD (fM sl.length h0 e) 0≠-1):False:=by
 have hr:=h.room
 have hc:=yA (sl:=sl) (fun k hk=>by
  have hN:0<sl.length:=by omega
  have hm:=Nat.mod_lt h0 hN
  obtain⟨e,he,hek⟩:∃ e,e<sl.length/\fM sl.length h0 e=k:=by
   by_cases hle:h0%sl.length<=k
   ·refine⟨k-h0%sl.length,by omega,?_⟩
    unfold fM
    rw[Nat.add_mod,Nat.mod_eq_of_lt (show k-h0%sl.length<sl.length by omega),Nat.mod_eq_of_lt (by omega)]
    omega
   ·refine⟨k+sl.length-h0%sl.length,by omega,?_⟩
    unfold fM
    rw[Nat.add_mod,Nat.mod_eq_of_lt (show k+sl.length-h0%sl.length<sl.length by omega)]
    rw[show h0%sl.length+(k+sl.length-h0%sl.length)=k+sl.length by omega,Nat.add_mod_right,Nat.mod_eq_of_lt hk]
  have:=hall e he
  rw[hek]at this
  exact this)
 rw[h.count]at hc
 omega
theorem Af{sl cells:List Int}{sh:Nat}(h:rm sl cells sh){i:Nat}{c:Int}(hi:cells[i]?=some c){n:Nat}(hn:n<=sl.length)
  (hno:∀ e,e<n->sl.getD (fM sl.length (gv sh c) e) 0≠-1/\∀ j:Nat,sl.getD (fM sl.length (gv sh c) e) 0=j->cells[j]?≠some c) (hend:sl.getD (fM sl.length (gv sh c) n) 0 = -1\/n=sl.length):False:=by
 obtain⟨d,hd,hv,hp⟩:=h.path i c hi
 rcases Nat.lt_or_ge d n with hdn|hdn
 ·exact(hno d hdn).2 i hv hi
 ·rcases hend with he|he
  ·rcases Nat.lt_or_ge n d with h1|h1
   ·exact hp n h1 he
   ·have:d=n:=by omega
    subst this
    rw[he]at hv
    omega
  ·omega
theorem qC{sl cells:List Int}{sh:Nat}(h:rm sl cells sh){c:Int}{n:Nat}(hn:n<=sl.length)
  (hno:∀ e,e<n->sl.getD (fM sl.length (gv sh c) e) 0≠-1/\∀ j:Nat,sl.getD (fM sl.length (gv sh c) e) 0=j->cells[j]?≠some c) (hend:sl.getD (fM sl.length (gv sh c) n) 0 = -1):c∉cells:=fun hm=>by
 obtain⟨i,hi⟩:=List.mem_iff_getElem?.1 hm
 exact Af h hi hn hno (.inl hend)
theorem ml(l:List Int)(i j:Nat)(v:Int)(hj:j<l.length):(l.set i v).getD j 0=if i=j then v else l.getD j 0:=by
 rw[List.getD_eq_getElem?_getD,List.getElem?_set]
 split
 ·rename_i e
  subst e
  rw[if_pos hj]
  rfl
 ·rw[List.getD_eq_getElem?_getD]
theorem kK:∀ (l:List Int) (k:Nat) (v:Int),k<l.length->l.getD k 0 = -1->v≠-1->(l.set k v).countP (fun v=>decide (v≠-1))=l.countP (fun v=>decide (v≠-1))+1
 | [],k,_,h,_,_=>by simp at h
 | x::l,0,v,_,h0,hv=>by
  simp at h0
  subst h0
  simp[hv]
 | x::l,k+1,v,h,h0,hv=>by
  have ih:=kK l k v (by simpa using h) (by simpa using h0) hv
  simp only[List.set_cons_succ,List.countP_cons]
  rw[ih]
  omega
theorem tab_add{sl cells:List Int}{sh:Nat}(h:rm sl cells sh){c:Int}{k:Nat}(hf:wW sl cells sh c k false)(hr:cells.length+1<sl.length):rm (sl.set k cells.length) (cells++[c]) sh:=by
 cases hf with
 | no hk hv hc hd =>
  obtain⟨d,hdl,rfl,hdp⟩:=hd
  have hN:0<sl.length:=by omega
  have hlen:(sl.set (fM sl.length (gv sh c) d) (cells.length:Int)).length=sl.length:=by simp
  refine⟨fun j hj=>?_,fun i c' hi=>?_,?_,by simp;omega⟩
  ·rw[hlen]at hj
   rw[ml _ _ _ _ hj]
   split
   ·right;simp;omega
   ·rcases h.vals j hj with h1|h1
    ·exact .inl h1
    ·refine .inr ⟨h1.1,?_⟩
     have h2:=h1.2
     rw[List.length_append,List.length_singleton]
     omega
  ·rw[hlen]
   have hne:∀ e h0,sl.getD (fM sl.length h0 e) 0≠-1->(sl.set (fM sl.length (gv sh c) d) (cells.length:Int)).getD (fM sl.length h0 e) 0=sl.getD (fM sl.length h0 e) 0:=fun e h0 hn=>by
    rw[ml _ _ _ _ (tE hN)]
    rw[if_neg]
    intro e2
    rw[e2]at hv
    exact hn hv
   rw[List.getElem?_append]at hi
   split at hi
   ·rename_i hil
    obtain⟨d',h1,h2,h3⟩:=h.path i c' hi
    refine⟨d',h1,?_,fun e he=>?_⟩
    ·rw[hne d' _ (by rw[h2];omega)]
     exact h2
    ·rw[hne e _ (h3 e he)]
     exact h3 e he
   ·rename_i hil
    have hi0:i=cells.length:=by
     have:=(List.getElem?_eq_some_iff.1 hi).1
     simp at this
     omega
    subst hi0
    simp at hi
    subst hi
    refine⟨d,hdl,?_,fun e he=>?_⟩
    ·rw[ml _ _ _ _ (tE hN),if_pos rfl]
    ·rw[hne e _ (hdp e he)]
     exact hdp e he
  ·rw[kK _ _ _ hk hv (by omega),h.count]
   simp
theorem sf(N sh:Nat)(hN:0<N):rm (List.replicate N (-1)) [] sh:=by
 refine⟨fun k hk=>.inl ?_,fun i c hi=>by simp at hi,?_,by simpa using hN⟩
 ·simp at hk
  rw[List.getD_eq_getElem?_getD,List.getElem?_replicate,if_pos hk]
  rfl
 ·rw[List.countP_eq_zero.2]
  ·rfl
  ·intro a ha
   have:=List.eq_of_mem_replicate ha
   simp[this]
def ft(most:Nat):Nat:=if most<=1 then 1 else if most<=2 then 2 else if most<=4 then 3 else if most<=8 then 4 else if most<=16 then 5 else 6
theorem oQ{most:Nat}(h:most<=24):most<2 ^ ft most:=by
 unfold ft
 repeat' split
 all_goals omega
theorem nV(most:Nat):1<=ft most/\ft most<=6:=by
 unfold ft
 repeat' split
 all_goals omega
theorem Dw:Tryz.prog.cellsOf 40=1:=by kernel_rfl
theorem zN:Tryz.prog.eqGuardType Tryz.prog.depth 42=false:=by kernel_rfl
theorem infoU64:∃ i,Tryz.prog.info? 40=some i/\i.size=1:=by
 have h:(Tryz.prog.info? 40).map (·.size)=some 1:=by kernel_rfl
 cases hi:Tryz.prog.info? 40 with
 | none=>rw[hi]at h;simp at h
 | some i=>rw[hi]at h;exact⟨i,rfl,by simpa using h⟩
theorem vd:Tryz.prog.plainKey 40=true:=by kernel_rfl
def eq8(a b:List Int):Bool:=decide (a=b)
theorem sp(w:World)(xs ys:Array Value)(f g:Nat->Int):∀ (is:List Nat),(∀ i∈is,xs[i]?=some (.int .u64 (f i))/\ys[i]?=some (.int .u64 (g i))) ->
  (Op.eqItems (9998+1) 40 1 xs ys is).run Tryz.prog w=.ok (is.all fun i=>f i == g i) w
 | [],_=>by simp[Op.eqItems]
 | i::is,h=>by
  obtain⟨h1,h2⟩:=h i List.mem_cons_self
  have ih:=sp w xs ys f g is (fun k hk=>h k (List.mem_cons_of_mem _ hk))
  have he:=run_equalIn_int w 9998 40 .u64 .u64 (f i) (g i) Tryz.underlying40
  simp only[Op.eqItems,Sem.run_bind,Nat.mul_one,run_part_plain w vd h1,run_part_plain w vd h2,Result.andThen_ok,he,List.all_cons]
  cases f i == g i
  ·simp
  ·simpa using ih
theorem all8(a0 a1 a2 a3 a4 a5 a6 a7 b0 b1 b2 b3 b4 b5 b6 b7:Int) :
  ((List.range 8).all fun k=>[a0,a1,a2,a3,a4,a5,a6,a7].getD k 0 == [b0,b1,b2,b3,b4,b5,b6,b7].getD k 0)=eq8 [a0,a1,a2,a3,a4,a5,a6,a7] [b0,b1,b2,b3,b4,b5,b6,b7]:=by
 unfold eq8
 rw[Bool.eq_iff_iff]
 simp[List.range,List.range.loop]
theorem qo(w:World)(a0 a1 a2 a3 a4 a5 a6 a7 b0 b1 b2 b3 b4 b5 b6 b7:Int) :
  (Op.equal 42 (.agg #[.int .u64 a0,.int .u64 a1,.int .u64 a2,.int .u64 a3,.int .u64 a4,.int .u64 a5,.int .u64 a6,.int .u64 a7]) (.agg #[.int .u64 b0,.int .u64 b1,.int .u64 b2,.int .u64 b3,.int .u64 b4,.int .u64 b5,.int .u64 b6,.int .u64 b7])).run Tryz.prog w =
   .ok (eq8 [a0,a1,a2,a3,a4,a5,a6,a7] [b0,b1,b2,b3,b4,b5,b6,b7]) w:=by
 obtain⟨i,hi,hs⟩:=infoU64
 unfold Op.equal
 rw[show Op.maxDepth=9998+1+1 from rfl,run_equalIn_array w (9998+1) _ _ Tryz.underlying42 hi,Dw]
 rw[sp w _ _ (fun k=>[a0,a1,a2,a3,a4,a5,a6,a7].getD k 0) (fun k=>[b0,b1,b2,b3,b4,b5,b6,b7].getD k 0)]
 ·rw[all8]
 ·intro k hk
  simp only[List.mem_range]at hk
  rcases(show k=0\/k=1\/k=2\/k=3\/k=4\/k=5\/k=6\/k=7 by omega)with rfl|rfl|rfl|rfl|rfl|rfl|rfl|rfl<;>exact⟨rfl,rfl⟩
theorem lN(w:World)(a0 a1 a2 a3 a4 a5 a6 a7 b0 b1 b2 b3 b4 b5 b6 b7:Int) :
  (Op.equalIn 10000 42 (.agg #[.int .u64 a0,.int .u64 a1,.int .u64 a2,.int .u64 a3,.int .u64 a4,.int .u64 a5,.int .u64 a6,.int .u64 a7]) (.agg #[.int .u64 b0,.int .u64 b1,.int .u64 b2,.int .u64 b3,.int .u64 b4,.int .u64 b5,.int .u64 b6,.int .u64 b7])).run Tryz.prog w =
   .ok (eq8 [a0,a1,a2,a3,a4,a5,a6,a7] [b0,b1,b2,b3,b4,b5,b6,b7]) w:=qo w a0 a1 a2 a3 a4 a5 a6 a7 b0 b1 b2 b3 b4 b5 b6 b7
inductive iR(m:au):Nat->bZ->bZ->Prop
 | refl (t:bZ):iR m 0 t t
 | step {n:Nat} {t t1 t2:bZ} {x:es} {v:Int}:iR m n t t1->t1.way=.no->cz m t1 x=true->(x.kind=2\/x.kind=3)->aI x.value->cB m t1 x=(⟨3,0,v,false⟩,t2,m)->iR m (n+1) t t2
structure dY where
 tx:bZ
 begun:Bool
 fin:Bool
 old:List bM
def dY.told(j:dY):List bM:=j.old++j.tx.told
inductive cM
 | on (j:dY)
 | over
def bL(a:aM)(fin:Bool):aM:=⟨if a.kind=3/\fin=false then 2 else a.kind,a.err,0,a.access⟩
inductive iy(c:cN)(old:List bM)(t:bZ)(fin:Bool)(a:aM):cM->Prop
 | on:a.kind≠4->¬(a.kind=3/\fin=true)->iy c old t fin a (.on ⟨t,true,fin,old⟩)
 | done:a.kind=3->fin=true->iy c old t fin a .over
 | fail:a.kind=4->iy c old t fin a .over
 | again:a.kind=4->iy c old t fin a (.on ⟨cZ c.ring c.writes c.stamps c.multi,false,false,old++t.told⟩)
def most:Nat:=200
inductive gx(c:cN)(m:au)(j:dY):aM->List bM->au->cM->Prop
 | begin {a new t' m' nx}:j.begun=false->cB m j.tx ⟨1,0,0,0⟩=(a,t',m')->t'.told=j.tx.told++new->iy c j.old t' false a nx->gx c m j (bL a false) new m' nx
 | go {a new t' m' nx}:j.begun=true->j.tx.way≠.no->aP m j.tx=(a,t',m')->t'.told=j.tx.told++new->iy c j.old t' j.fin a nx->gx c m j (bL a j.fin) new m' nx
 | quiet {n t' new fin}:j.begun=true->j.tx.way=.no->iR m n j.tx t'->n<=most->t'.told=j.tx.told++new->gx c m j ⟨2,0,0,false⟩ new m (.on ⟨t',true,fin,j.old⟩)
 | want {n t1 x a t' m' new nx}:j.begun=true->j.tx.way=.no->iR m n j.tx t1->n<=most->cz m t1 x=true->x.kind≠1->aI x.value->cB m t1 x=(a,t',m')->t'.told=j.tx.told++new->iy c j.old t' (decide (x.kind=4)) a nx ->
   gx c m j (bL a (decide (x.kind=4))) new m' nx
structure ix(c:cN)(j:dY)(m:au):Prop where
 tx:dM c j.tx m
 fresh:j.begun=false->j.tx.way=.no/\j.tx.phase=0
 runs:j.begun=true->j.tx.phase≠0
 fin:j.begun=true->(j.tx.phase=4\/j.tx.phase=5->j.fin=true)/\(j.tx.phase=1\/j.tx.phase=3->j.fin=false)
 old:∀ e∈j.old,rz e
def DY(c:cN)(m:au):cM->Prop
 | .on j=>ix c j m
 | .over=>True
theorem sG{c:cN}(hc:co c){m:au}(hm:m.ring=c.ring)(fin:Bool){old:List bM}(ho:∀ e∈old,rz e):ix c ⟨cZ c.ring c.writes c.stamps c.multi,false,fin,old⟩ m :=
 ⟨uH hc hm,fun _=>⟨rfl,rfl⟩,fun h=>by simp at h,fun h=>by simp at h,ho⟩
theorem ix.mem{c:cN}{j:dY}{m m':au}(h:ix c j m)(hr:m'.ring=m.ring)(hc:m'.cells.length=m.cells.length):ix c j m':=⟨h.tx.mem hr hc,h.fresh,h.runs,h.fin,h.old⟩
structure eG(a:aM)(new:List bM):Prop where
 each:∀ e∈new,e.kind=5\/e.kind=6->e.err=a.err/\(e.err=0↔a.kind=3)
 some:(∃ e∈new,e.kind=5\/e.kind=6)↔(a.kind=3\/a.kind=4)
 fail:a.kind=4↔a.err≠0
 still:(a.kind=0\/a.kind=1)->new=[]\/∃ e l,new=e::l/\e.kind=7
theorem eG.cons{a:aM}{new:List bM}(h:eG a new){e:bM}(he:e.kind≠5/\e.kind≠6)(h7:(a.kind=0\/a.kind=1)->e.kind=7):eG a (e::new):=by
 refine⟨fun x hx hk=>?_,?_,h.fail,fun hk=>.inr ⟨e,new,rfl,h7 hk⟩⟩
 ·rcases List.mem_cons.1 hx with rfl|hx
  ·omega
  ·exact h.each x hx hk
 ·rw[<-h.some]
  constructor
  ·rintro⟨x,hx,hk⟩
   rcases List.mem_cons.1 hx with rfl|hx
   ·omega
   ·exact⟨x,hx,hk⟩
  ·rintro⟨x,hx,hk⟩
   exact⟨x,List.mem_cons_of_mem _ hx,hk⟩
theorem eG.ahead{a:aM}:∀ {pre new:List bM},eG a new->(∀ e∈pre,e.kind≠5/\e.kind≠6)->¬(a.kind=0\/a.kind=1)->eG a (pre++new)
 | [],_,h,_,_=>h
 | e::_,_,h,hp,hk=>(eG.ahead h (fun x hx=>hp x (List.mem_cons_of_mem _ hx)) hk).cons (hp e List.mem_cons_self) (fun h'=>absurd h' hk)
theorem fv{a:aM}(h3:a.kind≠3)(h4:a.kind≠4)(he:a.err=0):eG a [] :=
 ⟨fun _ hx=>(nomatch hx),⟨fun⟨_,hx,_⟩=>(nomatch hx),fun h=>by omega⟩,⟨fun h=>absurd h h4,fun h=>absurd he h⟩,fun _=>.inl rfl⟩
theorem jk{a:aM}{e:bM}(hk:e.kind=5\/e.kind=6)(he:e.err=a.err)(h3:e.err=0↔a.kind=3)(h4:a.kind=4↔a.err≠0):eG a [e] :=
 ⟨fun x hx _=>by rw[List.mem_singleton.1 hx];exact⟨he,h3⟩,⟨fun _=>by
  by_cases h0:e.err=0
  ·exact .inl (h3.1 h0)
  ·exact .inr (h4.2 (by omega)),fun _=>⟨e,List.mem_singleton.2 rfl,hk⟩⟩,h4,fun h=>by
   exfalso
   by_cases h0:e.err=0
   ·have:=h3.1 h0;omega
   ·have:=h4.2 (by omega);omega⟩
theorem jB{a:aM}{e:bM}(hk:e.kind≠5/\e.kind≠6)(h2:a.kind=2)(he:a.err=0):eG a [e] :=
 (fv (a:=a) (by omega) (by omega) he).cons hk (fun h=>by omega)
theorem nZ{t:bZ}{a:aM}{new:List bM}{t':bZ}{fin:Bool}(h:jx t a new t')(hf4:t.phase=4\/t.phase=5->fin=true)(hf1:t.phase=1\/t.phase=3->fin=false):eG (bL a fin) new:=by
 cases h with
 | on k1 k2 k3 =>
  rcases k1 with rfl|rfl
  ·exact fv (by simp[bL,moved]) (by simp[bL,moved]) rfl
  ·exact fv (by simp[bL,waits]) (by simp[bL,waits]) rfl
 | live k1 k2 k3 k4 =>
  rw[hf1 k1]
  exact jB (by omega) (by simp[bL,aW]) rfl
 | pub k1 k2 k3=>exact jB (by omega) (by simp[bL,moved]) rfl
 | done k1 k2 k3 k4 =>
  rw[hf4 (.inr k1)]
  exact jk (.inl k2) (by rw[k3];rfl) (by rw[k3];simp[bL,aW]) (by simp[bL,aW])
 | fail k1 k2 k3 k4 =>
  exact jk (.inr k2) (by rw[k3];rfl) (by rw[k3];simp[bL,bi];omega) (by simp[bL,bi];omega)
theorem eQ{c:cN}{m:au}(hc:co c)(hm:aY m){n:Nat}{t t':bZ}(h:iR m n t t'):dM c t m->t.way=.no->t.phase≠0->∃ new,t'.told=t.told++new/\(∀ e∈new,e.kind=2\/e.kind=3)/\new.length=n/\dM c t' m/\t'.way=.no/\t'.phase≠0:=by
 induction h with
 | refl t=>exact fun h1 h2 h3=>⟨[],by simp,fun _ hx=>(nomatch hx),rfl,h1,h2,h3⟩
 | @step n t t1 t2 x v hq h2 h3 h4 h5 h6 ih =>
  intro hok hw hp
  obtain⟨new,k1,k2,k3,k4,k5,k6⟩:=ih hok hw hp
  obtain⟨add,d1,d2,d3,d4⟩:=oR hc hm k4 k5 h3 h5
  rw[h6]at d1 d2 d3
  simp only at d1 d2 d3
  have hone:∃ e,add=[e]/\(e.kind=2\/e.kind=3)/\t2.way=.no/\t2.phase≠0:=by
   cases d1 with
   | opened e1=>omega
   | own e1 e2 e3 e4 e5=>exact⟨_,rfl,.inl e2,e5,by omega⟩
   | wrote e1 e2 e3 e4=>exact⟨_,rfl,.inr e2,e4,by omega⟩
   | empty e1=>omega
   | commit e1=>omega
  obtain⟨e,rfl,he,hw2,hp2⟩:=hone
  refine⟨new++[e],by rw[d2,k1,List.append_assoc],fun y hy=>?_,by simp[k3],d3,hw2,hp2⟩
  rcases List.mem_append.1 hy with hy|hy
  ·exact k2 y hy
  ·rw[List.mem_singleton.1 hy];exact he
theorem gO{c:cN}(hc:co c){m:au}{old:List bM}{t:bZ}{fin:Bool}{a:aM}{nx:cM}(h:iy c old t fin a nx)(ht:dM c t m)(ho:∀ e∈old,rz e)
  (hp:a.kind≠4->¬(a.kind=3/\fin=true)->t.phase≠0/\(t.phase=4\/t.phase=5->fin=true)/\(t.phase=1\/t.phase=3->fin=false)):DY c m nx:=by
 cases h with
 | on h1 h2 =>
  obtain⟨q1,q2,q3⟩:=hp h1 h2
  exact⟨ht,fun h=>by simp at h,fun _=>q1,fun _=>⟨q2,q3⟩,ho⟩
 | done h1=>trivial
 | fail h1=>trivial
 | again h1=>exact sG hc ht.mring _ (fun e he=>(List.mem_append.1 he).elim (ho e) (ht.told e))
theorem vJ{c:cN}{m:au}{j:dY}{a:aM}{new:List bM}{m':au}{nx:cM}(hc:co c)(hm:aY m)(hj:ix c j m)(h:gx c m j a new m' nx) :
  eG a new/\DY c m' nx/\aY m'/\m'.ring=m.ring/\m'.cells.length=m.cells.length:=by
 cases h with
 | @begin a new t' m' nx hb hd ht hcm =>
  obtain⟨hw,hp⟩:=hj.fresh hb
  have hf:cz m j.tx ⟨1,0,0,0⟩=true:=by
   unfold cz
   simp[hp,hj.tx.mring.trans hj.tx.cfg.1.symm]
  obtain⟨new',d1,d2,d3,d4⟩:=oR hc hm hj.tx hw hf aK
  rw[hd]at d1 d2 d3 d4
  simp only at d1 d2 d3 d4
  obtain rfl:new=new':=List.append_cancel_left (ht.symm.trans d2)
  cases d1 with
  | own e1=>simp at e1
  | read e1=>simp at e1
  | wrote e1=>simp at e1
  | big e1=>simp at e1
  | empty e1=>simp at e1
  | commit e1=>simp at e1
  | abort e1=>simp at e1
  | @opened e _ new t0 _ e1 e2 e3 e4 =>
   refine⟨(nZ (fin:=false) e4 (by omega) (fun _=>rfl)).cons (by omega) (fun _=>e2),gO hc hcm d3 hj.old (fun h1 h2=>?_),d4⟩
   cases e4 with
   | on k1 k2 k3=>exact⟨by omega,by omega,fun _=>rfl⟩
   | live k1 k2 k3 k4=>exact⟨by omega,by omega,fun _=>rfl⟩
   | pub k1=>omega
   | done k1=>omega
   | fail k1=>simp[bi]at h1
 | @go a new t' m' nx hb hw hd ht hcm =>
  obtain⟨new',d1,d2,d3,d4⟩:=iJ hc hm hj.tx hw
  rw[hd]at d1 d2 d3 d4
  simp only at d1 d2 d3 d4
  obtain rfl:new=new':=List.append_cancel_left (ht.symm.trans d2)
  obtain⟨f1,f2⟩:=hj.fin hb
  have hr:=hj.runs hb
  refine⟨nZ d1 f1 f2,gO hc hcm d3 hj.old (fun h1 h2=>?_),d4⟩
  cases d1 with
  | on k1 k2 k3=>rw[k2];exact⟨hr,f1,f2⟩
  | live k1 k2 k3 k4=>exact⟨by omega,by omega,by omega⟩
  | pub k1 k2 k3=>exact⟨by omega,fun _=>f1 (.inl k1),by omega⟩
  | done k1 k2 k3 k4=>exact absurd ⟨rfl,f1 (.inr k1)⟩ h2
  | fail k1=>simp[bi]at h1
 | @quiet n t' new fin hb hw hq hn ht =>
  obtain⟨add,k1,k2,k3,k4,k5,k6⟩:=eQ hc hm hq hj.tx hw (hj.runs hb)
  obtain rfl:new=add:=List.append_cancel_left (ht.symm.trans k1)
  have hp:t'.phase=2:=by
   have:=k4.way
   unfold kc at this
   rw[k5]at this
   simp only at this
   omega
  refine⟨?_,⟨k4,fun h=>by simp at h,fun _=>k6,fun _=>by simp only;exact⟨by omega,by omega⟩,hj.old⟩,hm,rfl,rfl⟩
  have:=eG.ahead (pre:=new) (fv (a:=⟨2,0,0,false⟩) (by simp) (by simp) rfl) (fun e he=>by have:=k2 e he;omega) (by simp)
  simpa using this
 | @want n t1 x a t' m' new nx hb hw hq hn hf hx1 hv hd ht hcm =>
  obtain⟨add,k1,k2,k3,k4,k5,k6⟩:=eQ hc hm hq hj.tx hw (hj.runs hb)
  obtain⟨new',d1,d2,d3,d4⟩:=oR hc hm k4 k5 hf hv
  rw[hd]at d1 d2 d3 d4
  simp only at d1 d2 d3 d4
  obtain rfl:new=add++new':=List.append_cancel_left (ht.symm.trans (d2.trans (by rw[k1,List.append_assoc])))
  have hadd:∀ e∈add,e.kind≠5/\e.kind≠6:=fun e he=>by have:=k2 e he;omega
  cases d1 with
  | opened e1=>exact absurd e1 hx1
  | own e1 e2 e3 e4 e5 =>
   have e6:decide (x.kind=4)=false:=by simp;omega
   rw[e6]at hcm ⊢
   exact⟨(jB (by omega) (by simp[bL]) rfl).ahead hadd (by simp[bL]),gO hc hcm d3 hj.old (fun _ _=>⟨by omega,by omega,by omega⟩),d4⟩
  | read e1 e2 e3 =>
   have e6:decide (x.kind=4)=false:=by simp;omega
   rw[e6]at hcm ⊢
   exact⟨(fv (by simp[bL,moved]) (by simp[bL,moved]) rfl).ahead hadd (by simp[bL,moved]),gO hc hcm d3 hj.old (fun _ _=>⟨by omega,by omega,fun _=>rfl⟩),d4⟩
  | wrote e1 e2 e3 e4 =>
   have e6:decide (x.kind=4)=false:=by simp;omega
   rw[e6]at hcm ⊢
   exact⟨(jB (by omega) (by simp[bL]) rfl).ahead hadd (by simp[bL]),gO hc hcm d3 hj.old (fun _ _=>⟨by omega,by omega,by omega⟩),d4⟩
  | big e1 e2 e3 e4 =>
   exact⟨(jk (.inr e2) (by rw[e3];rfl) (by rw[e3];simp[bL]) (by simp[bL])).ahead hadd (by simp[bL]),gO hc hcm d3 hj.old (fun h1 _=>absurd rfl h1),d4⟩
  | empty e1 e2 e3 e4 =>
   have e6:decide (x.kind=4)=true:=by simp[e1]
   rw[e6]at hcm ⊢
   exact⟨(jk (.inr e2) (by rw[e3];rfl) (by rw[e3];simp[bL]) (by simp[bL])).ahead hadd (by simp[bL]),gO hc hcm d3 hj.old (fun _ h2=>absurd ⟨rfl,rfl⟩ h2),d4⟩
  | @commit _ _ t0 _ e1 e2 e3 e4 =>
   have e6:decide (x.kind=4)=true:=by simp[e1]
   rw[e6]at hcm ⊢
   refine⟨(nZ e4 (fun _=>rfl) (by omega)).ahead hadd ?_,gO hc hcm d3 hj.old (fun h1 h2=>?_),d4⟩
   ·cases e4 with
    | on k1 k2 k3 =>
     rcases k1 with rfl|rfl
     ·simp[bL,moved]
     ·exact absurd rfl e3
    | live k1=>omega
    | pub k1 k2 k3=>simp[bL,moved]
    | done k1=>omega
    | fail k1=>simp[bL,bi]
   ·cases e4 with
    | on k1 k2 k3=>exact⟨by omega,fun _=>rfl,by omega⟩
    | live k1=>omega
    | pub k1 k2 k3=>exact⟨by omega,fun _=>rfl,by omega⟩
    | done k1=>omega
    | fail k1=>simp[bi]at h1
  | abort e1 e2 e3 e4 e5 =>
   have hne:x.code≠0:=by omega
   exact⟨(jk (.inr e3) (by rw[e4];rfl) (by rw[e4];simp[bL];omega) (by simp[bL];omega)).ahead hadd (by simp[bL]),gO hc hcm d3 hj.old (fun h1 _=>absurd rfl h1),d4⟩
theorem xj{t:bZ}{m:au}(h:kc t m)(hp:t.phase=0\/t.phase=2):t.way=.no:=by
 unfold kc at h
 split at h
 ·assumption
 all_goals(exfalso;omega)
structure rG(a:aM)(t t':bZ):Prop where
 val:aI a.value
 way:a.kind=3->t'.way=.no
 told:a.kind=4->0<t'.told.length
 len:t'.told.length<=t.told.length+2
theorem ou{t t0 t':bZ}{a:aM}{new:List bM}{m':au}(h:jx t a new t')(hw:kc t' m')(ht:t'.told=t0.told++new):rG a t0 t':=by
 cases h with
 | on h1 h2 h3 =>
  rcases h1 with rfl|rfl
  ·exact⟨aK,fun h=>by simp[moved]at h,fun h=>by simp[moved]at h,by rw[ht];simp⟩
  ·exact⟨aK,fun h=>by simp[waits]at h,fun h=>by simp[waits]at h,by rw[ht];simp⟩
 | live h1 h2 h3 h4=>exact⟨h2,fun _=>xj hw (.inr h4),fun h=>by simp[aW]at h,by rw[ht];simp⟩
 | pub h1 h2 h3=>exact⟨aK,fun h=>by simp[moved]at h,fun h=>by simp[moved]at h,by rw[ht];simp⟩
 | done h1 h2 h3 h4=>exact⟨aK,fun _=>xj hw (.inl h4),fun h=>by simp[aW]at h,by rw[ht];simp⟩
 | fail h1 h2 h3 h4=>exact⟨aK,fun h=>by simp[bi]at h,fun _=>by rw[ht];simp,by rw[ht];simp⟩
theorem out_len{t t':bZ}{a:aM}{new:List bM}(h:jx t a new t'):new.length<=1:=by cases h<;>simp
theorem qi{c:cN}{t:bZ}{m:au}(hc:co c)(hm:aY m)(h:dM c t m)(hw:t.way≠.no):rG (aP m t).1 t (aP m t).2.1:=by
 obtain⟨new,h1,h2,h3,-⟩:=iJ hc hm h hw
 exact ou h1 h3.way h2
theorem nv{c:cN}{t:bZ}{m:au}{x:es}(hc:co c)(hm:aY m)(h:dM c t m)(hw:t.way=.no)(hf:cz m t x=true)(hx:aI x.value):rG (cB m t x).1 t (cB m t x).2.1:=by
 obtain⟨new,h1,h2,h3,-⟩:=oR hc hm h hw hf hx
 generalize cB m t x=R at *
 obtain⟨a,t',m'⟩:=R
 simp only at h1 h2 h3 ⊢
 cases h1 with
 | @opened e _ new0 t0 _ e1 e2 e3 e4 =>
  have ht:t'.told=(bO t e).told++new0:=by rw[h2];simp[bO]
  have h4:=ou (t0:=bO t e) e4 h3.way ht
  exact⟨h4.val,h4.way,h4.told,by rw[h2];have:=out_len e4;simp;omega⟩
 | own e1 e2 e3 e4 e5=>exact⟨e3,fun _=>e5,fun h=>by simp at h,by rw[h2];simp⟩
 | read e1 e2 e3=>exact⟨aK,fun h=>by simp[moved]at h,fun h=>by simp[moved]at h,by rw[h2];simp⟩
 | wrote e1 e2 e3 e4=>exact⟨aK,fun _=>e4,fun h=>by simp at h,by rw[h2];simp⟩
 | big e1 e2 e3 e4=>exact⟨aK,fun h=>by simp at h,fun _=>by rw[h2];simp,by rw[h2];simp⟩
 | empty e1 e2 e3 e4=>exact⟨aK,fun _=>xj h3.way (.inl e4),fun h=>by simp at h,by rw[h2];simp⟩
 | commit e1 e2 e3 e4=>exact ou e4 h3.way h2
 | abort e1 e2 e3 e4 e5=>exact⟨aK,fun h=>by simp at h,fun _=>by rw[h2];simp,by rw[h2];simp⟩
theorem do_mem{m:au}{t:bZ}{x:es}(hk:x.kind=2\/x.kind=3):(cB m t x).2.2=m:=by
 unfold cB
 split
 ·rfl
 ·rw[if_neg (by omega)]
  split
  ·split
   ·rfl
   ·rfl
  ·split
   ·split<;>rfl
   ·omega
theorem xk{c:cN}{t:bZ}{m:au}{x:es}(hc:co c)(hm:aY m)(h:dM c t m)(hw:t.way=.no)(hf:cz m t x=true)(hx:aI x.value)(hk:x.kind=2\/x.kind=3)
  (h3:(cB m t x).1.kind=3):∃ v,aI v/\cB m t x=(⟨3,0,v,false⟩,(cB m t x).2.1,m)/\(cB m t x).2.1.way=.no/\(cB m t x).2.1.phase=2/\(cB m t x).2.1.told.length=t.told.length+1/\dM c (cB m t x).2.1 m:=by
 obtain⟨new,h1,h2,h4,-⟩:=oR hc hm h hw hf hx
 have hmem:=do_mem (m:=m) (t:=t) hk
 generalize cB m t x=R at *
 obtain⟨a,t',m'⟩:=R
 simp only at h1 h2 h3 h4 hmem ⊢
 subst hmem
 cases h1 with
 | opened e1=>omega
 | @own v e _ e1 e2 e3 e4 e5=>exact⟨v,e3,rfl,e5,e4,by rw[h2];simp,h4⟩
 | read e1 e2 e3=>simp[moved]at h3
 | wrote e1 e2 e3 e4=>exact⟨0,aK,rfl,e4,e3,by rw[h2];simp,h4⟩
 | big e1 e2 e3 e4=>simp at h3
 | empty e1=>omega
 | commit e1=>omega
 | abort e1=>omega
theorem js{c:cN}{t:bZ}{m:au}{x:es}(h:dM c t m)(hp:t.phase=2)(hk:x.kind=2\/x.kind=3)(h0:0<=x.cell)(h1:x.cell<m.cells.length):cz m t x=true:=by
 unfold cz
 have hr:m.ring=t.ring:=h.mring.trans h.cfg.1.symm
 rcases hk with hk|hk<;>simp[hr,hk,hp,h0,h1]
namespace Cod
open Go.RowKit
def shapeT:List Nat:=[0,1,2,3,0,0,0,0,0,0,0,0,0,0,0,0,0,0,0,0,0,0,0,4,2,2,6,0,5,0,0,0,0,5,5,5,5,5,5,5,5]
def shapeN(c:Nat):Nat:=shapeT.getD c 0
def fi(sh:Nat):Nat:=if sh=1\/sh=4\/sh=5 then 1 else if sh=2\/sh=6 then 2 else if sh=3 then 8 else 0
def loI(sh:Nat):Int:=if sh=1 then -128 else if sh=2 then -32768 else if sh=3 then -9223372036854775808 else 0
def hiI(sh:Nat):Int:=if sh=1 then 127 else if sh=2 then 32767 else if sh=3 then 9223372036854775807 else if sh=4 then 5 else if sh=5 then 255 else if sh=6 then 65535 else 0
def eV(sh:Nat)(n:Int):Bool:=decide (loI sh<=n/\n<=hiI sh)
def valueI(sh:Nat)(n:Nat):Int :=
 if sh=1 then(if n%256<128 then(n%256:Nat)else(n%256:Nat)-256)else if sh=2 then(if n%65536<32768 then(n%65536:Nat)else(n%65536:Nat)-65536)else wrap64 n
theorem shape_le(c:Nat):shapeN c<=6:=by
 by_cases h:c<41
 ·have:∀ c,c<41->shapeN c<=6:=by decide
  exact this c h
 ·unfold shapeN
  rw[List.getD_eq_getElem?_getD,List.getElem?_eq_none (by simp[shapeT];omega)]
  simp
theorem uB(sh:Nat):fi sh<=8:=by
 unfold fi
 split
 ·omega
 ·split
  ·omega
  ·split<;>omega
def byteN(l:List UInt8)(i:Nat):Nat:=(l.getD i 0).toNat
theorem byte_lt(l:List UInt8)(i:Nat):byteN l i<256:=(l.getD i 0).toNat_lt
def vF(l:List UInt8)(a:Nat):Nat->Nat
 | 0=>0
 | k+1=>byteN l a+256*vF l (a+1) k
theorem vE(l:List UInt8):∀ (k a:Nat),vF l a (k+1)=vF l a k+byteN l (a+k)*256 ^ k
 | 0,a=>by simp[vF]
 | k+1,a=>by
  have ih:=vE l k (a+1)
  rw[vF,ih,vF,Nat.pow_succ]
  have e:a+1+k=a+(k+1):=by omega
  rw[e,Nat.mul_add]
  have:256*(byteN l (a+(k+1))*256 ^ k)=byteN l (a+(k+1))*(256 ^ k*256):=by
   rw[Nat.mul_comm 256,Nat.mul_assoc]
  omega
theorem x8(l:List UInt8):∀ (k a:Nat),vF l a k<256 ^ k
 | 0,a=>by simp[vF]
 | k+1,a=>by
  have ih:=x8 l k (a+1)
  have hb:=byte_lt l a
  rw[vF,Nat.pow_succ]
  omega
theorem pow_le8{k:Nat}(h:k<=8):256 ^ k<=18446744073709551616:=Nat.le_trans (Nat.pow_le_pow_right (by omega) h) (by decide)
theorem leF_lt8(l:List UInt8)(k a:Nat)(h:k<=8):vF l a k<18446744073709551616:=Nat.lt_of_lt_of_le (x8 l k a) (pow_le8 h)
structure zS where
 code:Int
 operand:Int
 n:Int
 err:Int
def noSpot:zS:=⟨0,0,0,10⟩
def atS(l:List UInt8)(at_:Int):zS :=
 if at_<0\/l.length<=at_ then noSpot
 else if 41<=byteN l at_.toNat then noSpot
 else if l.length<at_.toNat+1+fi (shapeN (byteN l at_.toNat))then noSpot
 else if eV (shapeN (byteN l at_.toNat)) (valueI (shapeN (byteN l at_.toNat)) (vF l (at_.toNat+1) (fi (shapeN (byteN l at_.toNat)))))=true then
  ⟨byteN l at_.toNat,valueI (shapeN (byteN l at_.toNat)) (vF l (at_.toNat+1) (fi (shapeN (byteN l at_.toNat)))),1+fi (shapeN (byteN l at_.toNat)),0⟩
 else noSpot
theorem uF(sh n:Nat) : -9223372036854775808<=valueI sh n/\valueI sh n<=9223372036854775807:=by
 unfold valueI
 split
 ·split<;>omega
 ·split
  ·split<;>omega
  ·unfold wrap64
   omega
theorem pow8(k:Nat):2 ^ (8*k)=256 ^ k:=by rw[Nat.pow_mul]
theorem or_step(n b k:Nat)(hn:n<256 ^ k)(hb:b<256)(hk:k<8):bits .or .u64 (n:Int) (IntKind.u64.wrap (IntKind.u64.wrap (b:Int)*2 ^ (8*k)))=((n+b*256 ^ k:Nat):Int):=by
 have h1:256 ^ k*256<=18446744073709551616:=by
  have:=Nat.pow_le_pow_right (show 0<256 by omega) (show k+1<=8 by omega)
  rw[Nat.pow_succ]at this
  exact Nat.le_trans this (by decide)
 have e1:IntKind.u64.wrap (b:Int)=b:=by simp[IntKind.wrap,IntKind.bits,IntKind.signed];omega
 have h2:b*256 ^ k<18446744073709551616:=by
  have:b*256 ^ k<=255*256 ^ k:=Nat.mul_le_mul_right _ (by omega)
  omega
 have e2:IntKind.u64.wrap ((b:Int)*2 ^ (8*k))=((b*256 ^ k:Nat):Int):=by
  have e:(b:Int)*2 ^ (8*k)=((b*256 ^ k:Nat):Int):=by rw[<-pow8];push_cast;rfl
  rw[e]
  simp only[IntKind.wrap,IntKind.bits,IntKind.signed]
  generalize b*256 ^ k=m at *
  simp
  omega
 have hn2:n<18446744073709551616:=by omega
 rw[e1,e2,u64_or_nat _ _ hn2 h2]
 congr 1
 have h3:=Nat.two_pow_add_eq_or_of_lt (i:=8*k) (b:=n) (by rw[pow8];exact hn) b
 rw[pow8,Nat.mul_comm (256 ^ k) b]at h3
 rw[Nat.or_comm,<-h3,Nat.add_comm]
end Cod
namespace Cod
open Go.RowKit
theorem seven{sh:Nat}(h:sh<=6):sh=0\/sh=1\/sh=2\/sh=3\/sh=4\/sh=5\/sh=6:=by omega
theorem oP(sh:Nat)(h:sh<=6)(w:World):Calls Tryz.prog 97 #[.int .u8 (sh:Int)] w (dm (.int .i64 (fi sh:Int)) w):=by
 rcases seven h with rfl|rfl|rfl|rfl|rfl|rfl|rfl
 all_goals
  clear h
  go_enter Tryz.func97,Tryz.ntmps97
  go_wp2
  go_ret
  exact⟨rfl,rfl⟩
theorem ret_int{k:IntKind}{a b:Int}(h:a=b):Ending.returned (.int k a)=.returned (.int k b):=by rw[h]
theorem yv(sh:Nat)(h:sh<=6)(n:Int)(h1 : -9223372036854775808<=n)(h2:n<=9223372036854775807)(w:World) :
  Calls Tryz.prog 99 #[.int .u8 (sh:Int),.int .i64 n] w (dm (.bool (eV sh n)) w):=by
 rcases seven h with rfl|rfl|rfl|rfl|rfl|rfl|rfl
 ·have e:eV 0 n=(n == 0):=by
   unfold eV
   by_cases hz:n=0
   ·subst hz;rfl
   ·rw[decide_eq_false (by show ¬((0:Int)<=n/\n<=0);omega)];simp[hz]
  rw[e]
  clear h e h1 h2
  go_enter Tryz.func99,Tryz.ntmps99
  go_wp2
  go_ret
  exact⟨rfl,rfl⟩
 ·clear h h1 h2
  rcases(show n<(-128)\/((-128)<=n/\127<n)\/((-128)<=n/\n<=127)from by omega)with hh|⟨hh,h1⟩|⟨hh,h1⟩
  ·have e:eV 1 n=false:=decide_eq_false (by show ¬((-128)<=n/\n<=127);omega)
   rw[e]
   have g:decide ((-128)<=n)=false:=by simp;omega
   clear e hh
   go_enter Tryz.func99,Tryz.ntmps99
   go_wp2
   go_ret
   exact⟨rfl,rfl⟩
  ·have e:eV 1 n=false:=decide_eq_false (by show ¬((-128)<=n/\n<=127);omega)
   rw[e]
   have g:decide (n<=127)=false:=by simp;omega
   clear e h1
   go_enter Tryz.func99,Tryz.ntmps99
   go_wp2
   go_ret
   exact⟨rfl,rfl⟩
  ·have e:eV 1 n=true:=decide_eq_true (by show(-128)<=n/\n<=127;omega)
   rw[e]
   clear e
   go_enter Tryz.func99,Tryz.ntmps99
   go_wp2
   go_ret
   exact⟨rfl,rfl⟩
 ·clear h h1 h2
  rcases(show n<(-32768)\/((-32768)<=n/\32767<n)\/((-32768)<=n/\n<=32767)from by omega)with hh|⟨hh,h1⟩|⟨hh,h1⟩
  ·have e:eV 2 n=false:=decide_eq_false (by show ¬((-32768)<=n/\n<=32767);omega)
   rw[e]
   have g:decide ((-32768)<=n)=false:=by simp;omega
   clear e hh
   go_enter Tryz.func99,Tryz.ntmps99
   go_wp2
   go_ret
   exact⟨rfl,rfl⟩
  ·have e:eV 2 n=false:=decide_eq_false (by show ¬((-32768)<=n/\n<=32767);omega)
   rw[e]
   have g:decide (n<=32767)=false:=by simp;omega
   clear e h1
   go_enter Tryz.func99,Tryz.ntmps99
   go_wp2
   go_ret
   exact⟨rfl,rfl⟩
  ·have e:eV 2 n=true:=decide_eq_true (by show(-32768)<=n/\n<=32767;omega)
   rw[e]
   clear e
   go_enter Tryz.func99,Tryz.ntmps99
   go_wp2
   go_ret
   exact⟨rfl,rfl⟩
 ·have e:eV 3 n=true:=decide_eq_true ⟨h1,h2⟩
  rw[e]
  clear h e h1 h2
  go_enter Tryz.func99,Tryz.ntmps99
  go_wp2
  go_ret
  exact⟨rfl,rfl⟩
 ·clear h h1 h2
  rcases(show n<0\/(0<=n/\6<=n)\/(0<=n/\n<6)from by omega)with hh|⟨hh,h1⟩|⟨hh,h1⟩
  ·have e:eV 4 n=false:=decide_eq_false (by show ¬(0<=n/\n<=5);omega)
   rw[e]
   have g:decide (0<=n)=false:=by simp;omega
   clear e hh
   go_enter Tryz.func99,Tryz.ntmps99
   go_wp2
   go_ret
   exact⟨rfl,rfl⟩
  ·have e:eV 4 n=false:=decide_eq_false (by show ¬(0<=n/\n<=5);omega)
   rw[e]
   have g:decide (n<6)=false:=by simp;omega
   clear e h1
   go_enter Tryz.func99,Tryz.ntmps99
   go_wp2
   go_ret
   exact⟨rfl,rfl⟩
  ·have e:eV 4 n=true:=decide_eq_true (by show 0<=n/\n<=5;omega)
   rw[e]
   clear e
   go_enter Tryz.func99,Tryz.ntmps99
   go_wp2
   go_ret
   exact⟨rfl,rfl⟩
 ·clear h h1 h2
  rcases(show n<0\/(0<=n/\255<n)\/(0<=n/\n<=255)from by omega)with hh|⟨hh,h1⟩|⟨hh,h1⟩
  ·have e:eV 5 n=false:=decide_eq_false (by show ¬(0<=n/\n<=255);omega)
   rw[e]
   have g:decide (0<=n)=false:=by simp;omega
   clear e hh
   go_enter Tryz.func99,Tryz.ntmps99
   go_wp2
   go_ret
   exact⟨rfl,rfl⟩
  ·have e:eV 5 n=false:=decide_eq_false (by show ¬(0<=n/\n<=255);omega)
   rw[e]
   have g:decide (n<=255)=false:=by simp;omega
   clear e h1
   go_enter Tryz.func99,Tryz.ntmps99
   go_wp2
   go_ret
   exact⟨rfl,rfl⟩
  ·have e:eV 5 n=true:=decide_eq_true (by show 0<=n/\n<=255;omega)
   rw[e]
   clear e
   go_enter Tryz.func99,Tryz.ntmps99
   go_wp2
   go_ret
   exact⟨rfl,rfl⟩
 ·clear h h1 h2
  rcases(show n<0\/(0<=n/\65535<n)\/(0<=n/\n<=65535)from by omega)with hh|⟨hh,h1⟩|⟨hh,h1⟩
  ·have e:eV 6 n=false:=decide_eq_false (by show ¬(0<=n/\n<=65535);omega)
   rw[e]
   have g:decide (0<=n)=false:=by simp;omega
   clear e hh
   go_enter Tryz.func99,Tryz.ntmps99
   go_wp2
   go_ret
   exact⟨rfl,rfl⟩
  ·have e:eV 6 n=false:=decide_eq_false (by show ¬(0<=n/\n<=65535);omega)
   rw[e]
   have g:decide (n<=65535)=false:=by simp;omega
   clear e h1
   go_enter Tryz.func99,Tryz.ntmps99
   go_wp2
   go_ret
   exact⟨rfl,rfl⟩
  ·have e:eV 6 n=true:=decide_eq_true (by show 0<=n/\n<=65535;omega)
   rw[e]
   clear e
   go_enter Tryz.func99,Tryz.ntmps99
   go_wp2
   go_ret
   exact⟨rfl,rfl⟩
theorem B6(n:Nat):wrap64 (IntKind.i8.wrap (n:Int))=valueI 1 n:=by
 have e:IntKind.i8.wrap (n:Int)=if n%256<128 then((n%256:Nat):Int)else((n%256:Nat):Int)-256:=by
  simp[IntKind.wrap,IntKind.bits,IntKind.signed]
  split<;>split<;>omega
 rw[e]
 unfold valueI wrap64
 rw[if_pos rfl]
 split<;>omega
theorem Aj(n:Nat):wrap64 (IntKind.i16.wrap (n:Int))=valueI 2 n:=by
 have e:IntKind.i16.wrap (n:Int)=if n%65536<32768 then((n%65536:Nat):Int)else((n%65536:Nat):Int)-65536:=by
  simp[IntKind.wrap,IntKind.bits,IntKind.signed]
  split<;>split<;>omega
 rw[e]
 unfold valueI wrap64
 rw[if_neg (show ¬(2:Nat)=1 by omega),if_pos rfl]
 split<;>omega
theorem xm{sh n:Nat}(h1:sh≠1)(h2:sh≠2):wrap64 (n:Int)=valueI sh n:=by unfold valueI;rw[if_neg h1,if_neg h2]
theorem uG(sh:Nat)(h:sh<=6)(n:Nat)(_hn:n<18446744073709551616)(w:World):Calls Tryz.prog 98 #[.int .u8 (sh:Int),.int .u64 (n:Int)] w (dm (.int .i64 (valueI sh n)) w):=by
 rcases seven h with rfl|rfl|rfl|rfl|rfl|rfl|rfl
 all_goals
  clear h
  go_enter Tryz.func98,Tryz.ntmps98
  go_wp2
  go_ret
  refine⟨ret_int ?_,rfl⟩
  first|exact B6 n|exact Aj n|exact xm (by omega) (by omega)
end Cod
namespace Plc
open Go.RowKit
theorem eU{f:FuncId}{args:Array Value}{w:World}{n:Nat}{v:Value}(h:∀ W,Calls Tryz.prog f args W (dm v W)) :
  Calls Tryz.prog f args (w.drewN n) fun e w''=>e=.returned v/\∃ m,w''=w.drewN m:=(h _).mono fun _ _ ⟨h1,h2⟩=>⟨h1,n,h2.symm⟩
def pE(n a b:Int):Bool:=decide (a<=n/\n<=b)
theorem dD{n a b:Int}(h1:a<=n)(h2:n<=b):pE n a b=true:=decide_eq_true ⟨h1,h2⟩
theorem eM{n a b:Int}(h:n<a\/b<n):pE n a b=false:=decide_eq_false (by omega)
theorem da(n a b:Int)(w:World):Calls Tryz.prog 49 #[.int .i64 n,.int .i64 a,.int .i64 b] w (dm (.bool (pE n a b)) w):=by
 rcases(show n<a\/(a<=n/\b<n)\/(a<=n/\n<=b)from by omega)with h|⟨h,h1⟩|⟨h,h1⟩
 ·rw[eM (.inl h)]
  have h':decide (a<=n)=false:=by simp;omega
  clear h
  go_enter Tryz.func49,Tryz.ntmps49
  go_wp2
  go_ret
  exact⟨rfl,rfl⟩
 ·rw[eM (.inr h1)]
  have h':decide (n<=b)=false:=by simp;omega
  clear h1
  go_enter Tryz.func49,Tryz.ntmps49
  go_wp2
  go_ret
  exact⟨rfl,rfl⟩
 ·rw[dD h h1]
  go_enter Tryz.func49,Tryz.ntmps49
  go_wp2
  go_ret
  exact⟨rfl,rfl⟩
theorem dw(n a b:Int)(w:World):Calls Tryz.prog 50 #[.int .i64 n,.int .i64 a,.int .i64 b] w (dm (.bool (pE n a b)) w):=by
 rcases(show n<a\/(a<=n/\b<n)\/(a<=n/\n<=b)from by omega)with h|⟨h,h1⟩|⟨h,h1⟩
 ·rw[eM (.inl h)]
  have h':decide (a<=n)=false:=by simp;omega
  clear h
  go_enter Tryz.func50,Tryz.ntmps50
  go_wp2
  go_ret
  exact⟨rfl,rfl⟩
 ·rw[eM (.inr h1)]
  have h':decide (n<=b)=false:=by simp;omega
  clear h1
  go_enter Tryz.func50,Tryz.ntmps50
  go_wp2
  go_ret
  exact⟨rfl,rfl⟩
 ·rw[dD h h1]
  go_enter Tryz.func50,Tryz.ntmps50
  go_wp2
  go_ret
  exact⟨rfl,rfl⟩
def xF(a:Int):Bool:=decide (0<=a/\a<=16)
theorem jm{a:Int}(h1:0<=a)(h2:a<=16):xF a=true:=decide_eq_true ⟨h1,h2⟩
theorem qp{a:Int}(h:a<0\/16<a):xF a=false:=decide_eq_false (by omega)
theorem eY(a:Int)(w:World):Calls Tryz.prog 77 #[.int .i64 a] w (dm (.bool (xF a)) w):=by
 rcases(show a<0\/(0<=a/\16<a)\/(0<=a/\a<=16)from by omega)with h|⟨h,h1⟩|⟨h,h1⟩
 ·rw[qp (.inl h)]
  have h2:decide (0<=a)=false:=by simp;omega
  clear h
  go_enter Tryz.func77,Tryz.ntmps77
  go_wp2
  go_ret
  exact⟨rfl,rfl⟩
 ·rw[qp (.inr h1)]
  have h2:decide (a<=16)=false:=by simp;omega
  clear h1
  go_enter Tryz.func77,Tryz.ntmps77
  go_wp2
  go_ret
  exact⟨rfl,rfl⟩
 ·rw[jm h h1]
  go_enter Tryz.func77,Tryz.ntmps77
  go_wp2
  go_ret
  exact⟨rfl,rfl⟩
def tp(kind cap:Int):Int:=if kind=1 then cap else if kind=2 then cap+2 else if kind=3 then 3*cap+1 else 2*cap+3
def regB(kind cap:Int):Bool:=decide (1<=kind/\kind<=4/\0<=cap/\cap<=16)
def sizeN(kind cap:Int):Int:=if regB kind cap=true then tp kind cap else 0
def sm(kind cap:Int):Int:=if regB kind cap=true then 0 else 13
theorem pF{kind cap:Int}(h:kind<1\/4<kind\/cap<0\/16<cap):sizeN kind cap=0/\sm kind cap=13:=by
 have e:regB kind cap=false:=decide_eq_false (by omega)
 simp[sizeN,sm,e]
theorem mF{kind cap:Int}(h1:1<=kind)(h2:kind<=4)(h3:0<=cap)(h4:cap<=16):sizeN kind cap=tp kind cap/\sm kind cap=0:=by
 have e:regB kind cap=true:=decide_eq_true ⟨h1,h2,h3,h4⟩
 simp[sizeN,sm,e]
theorem size_bd(kind cap:Int):0<=sizeN kind cap/\sizeN kind cap<=49:=by
 unfold sizeN
 split
 ·rename_i h
  have:=of_decide_eq_true h
  unfold tp
  split
  ·omega
  ·split
   ·omega
   ·split<;>omega
 ·omega
section
variable (a:Int)(w:World)(h:0<=a)(h1:a<=16)
include h h1
theorem wU:Calls Tryz.prog 73 #[.int .i64 a] w (dm (.int .i64 (tp 1 a)) w):=by
 have e:tp 1 a=a:=rfl
 rw[e]
 go_enter Tryz.func73,Tryz.ntmps73
 go_wp2
 go_ret
 exact⟨rfl,rfl⟩
theorem wT:Calls Tryz.prog 74 #[.int .i64 a] w (dm (.int .i64 (tp 2 a)) w):=by
 have e:tp 2 a=a+2:=rfl
 rw[e]
 go_enter Tryz.func74,Tryz.ntmps74
 go_wp2
 go_ret
 exact⟨rfl,rfl⟩
theorem wS:Calls Tryz.prog 75 #[.int .i64 a] w (dm (.int .i64 (tp 3 a)) w):=by
 have e:tp 3 a=3*a+1:=rfl
 rw[e]
 go_enter Tryz.func75,Tryz.ntmps75
 go_wp2
 go_ret
 exact⟨rfl,rfl⟩
theorem wR:Calls Tryz.prog 76 #[.int .i64 a] w (dm (.int .i64 (tp 4 a)) w):=by
 have e:tp 4 a=2*a+3:=rfl
 rw[e]
 go_enter Tryz.func76,Tryz.ntmps76
 go_wp2
 go_ret
 exact⟨rfl,rfl⟩
theorem un:Calls Tryz.prog 78 #[.int .i64 a] w (dm (.int .i64 (tp 1 a)) w):=by
 have e:tp 1 a=a:=rfl
 rw[e]
 have hr:=jm h h1
 go_enter Tryz.func78,Tryz.ntmps78
 go_wp2_with(go_at_call 77;refine(eY _ _).mono ?_;rintro e w' ⟨rfl,rfl⟩)
 go_ret
 exact⟨rfl,rfl⟩
theorem um:Calls Tryz.prog 79 #[.int .i64 a] w (dm (.int .i64 (tp 2 a)) w):=by
 have e:tp 2 a=a+2:=rfl
 rw[e]
 have hr:=jm h h1
 go_enter Tryz.func79,Tryz.ntmps79
 go_wp2_with(go_at_call 77;refine(eY _ _).mono ?_;rintro e w' ⟨rfl,rfl⟩)
 go_ret
 exact⟨rfl,rfl⟩
theorem ul:Calls Tryz.prog 80 #[.int .i64 a] w (dm (.int .i64 (tp 3 a)) w):=by
 have e:tp 3 a=3*a+1:=rfl
 rw[e]
 have hr:=jm h h1
 go_enter Tryz.func80,Tryz.ntmps80
 go_wp2_with(go_at_call 77;refine(eY _ _).mono ?_;rintro e w' ⟨rfl,rfl⟩)
 go_ret
 exact⟨rfl,rfl⟩
theorem uk:Calls Tryz.prog 81 #[.int .i64 a] w (dm (.int .i64 (tp 4 a)) w):=by
 have e:tp 4 a=2*a+3:=rfl
 rw[e]
 have hr:=jm h h1
 go_enter Tryz.func81,Tryz.ntmps81
 go_wp2_with(go_at_call 77;refine(eY _ _).mono ?_;rintro e w' ⟨rfl,rfl⟩)
 go_ret
 exact⟨rfl,rfl⟩
end
def regV(kind cap:Int):Value:=.agg #[.int .i64 kind,.int .i64 cap]
def mG(kind cap:Int):Value:=.tuple #[.int .i64 (sizeN kind cap),.int .i64 (sm kind cap)]
theorem pp(kind cap:Int)(w:World):Calls Tryz.prog 53 #[regV kind cap] w (dd (mG kind cap) w):=by
 unfold mG regV
 rcases(show(cap<0\/16<cap)\/(0<=cap/\cap<=16)from by omega)with h|⟨h,h1⟩
 ·obtain⟨e1,e2⟩:=pF (kind:=kind) (cap:=cap) (by omega)
  rw[e1,e2]
  have hr:=qp h
  clear e1 e2 h
  go_enter Tryz.func53,Tryz.ntmps53
  go_wp2_with(go_at_call 77;refine(eY _ _).mono ?_;rintro e w' ⟨rfl,rfl⟩)
  go_ret2
  exact⟨rfl,ai _ _⟩
 ·have hr:=jm h h1
  rcases(show kind=1\/kind=2\/kind=3\/kind=4\/(kind≠1/\kind≠2/\kind≠3/\kind≠4)from by omega)with rfl|rfl|rfl|rfl|⟨k1,k2,k3,k4⟩
  case inr.inr.inr.inr =>
   obtain⟨e1,e2⟩:=pF (kind:=kind) (cap:=cap) (by omega)
   rw[e1,e2]
   have g1:(kind == 1)=false:=by simpa using k1
   have g2:(kind == 2)=false:=by simpa using k2
   have g3:(kind == 3)=false:=by simpa using k3
   have g4:(kind == 4)=false:=by simpa using k4
   clear e1 e2 k1 k2 k3 k4
   go_enter Tryz.func53,Tryz.ntmps53
   go_wp2_with(go_at_call 77;refine(eY _ _).mono ?_;rintro e w' ⟨rfl,rfl⟩)
   go_ret2
   exact⟨rfl,ai _ _⟩
  all_goals
   rw[(mF (by omega) (by omega) h h1).1,(mF (by omega) (by omega) h h1).2]
   go_enter Tryz.func53,Tryz.ntmps53
   go_wp2_with(first|(go_at_call 77;refine(eY _ _).mono ?_;rintro e w' ⟨rfl,rfl⟩)|(go_at_call 78;refine(un _ _ h h1).mono ?_;rintro e w' ⟨rfl,rfl⟩)|(go_at_call 79;refine(um _ _ h h1).mono ?_;rintro e w' ⟨rfl,rfl⟩)|(go_at_call 80;refine(ul _ _ h h1).mono ?_;rintro e w' ⟨rfl,rfl⟩)|(go_at_call 81;refine(uk _ _ h h1).mono ?_;rintro e w' ⟨rfl,rfl⟩))
   go_ret2
   exact⟨rfl,ai _ _⟩
theorem mA(kind cap:Int)(w:World):Calls Tryz.prog 51 #[regV kind cap] w (dd (mG kind cap) w):=by
 unfold mG regV
 rcases(show(kind<1\/4<kind)\/(1<=kind/\kind<=4)from by omega)with h|⟨hk,hk1⟩
 ·obtain⟨e1,e2⟩:=pF (kind:=kind) (cap:=cap) (by omega)
  rw[e1,e2]
  have hw:=eM h
  clear e1 e2 h
  go_enter Tryz.func51,Tryz.ntmps51
  go_wp2_with(go_at_call 49;refine(da _ _ _ _).mono ?_;rintro e w' ⟨rfl,rfl⟩)
  go_ret2
  exact⟨rfl,bA (ai _ _) _⟩
 ·have hw:=dD hk hk1
  rcases(show(cap<0\/16<cap)\/(0<=cap/\cap<=16)from by omega)with h|⟨h,h1⟩
  ·obtain⟨e1,e2⟩:=pF (kind:=kind) (cap:=cap) (by omega)
   rw[e1,e2]
   have hw2:=eM h
   clear e1 e2 h hk hk1
   go_enter Tryz.func51,Tryz.ntmps51
   go_wp2_with(go_at_call 49;refine(da _ _ _ _).mono ?_;rintro e w' ⟨rfl,rfl⟩)
   go_ret2
   exact⟨rfl,bA (ai _ _) _⟩
  ·have hw2:=dD h h1
   rcases(show kind=1\/kind=2\/kind=3\/kind=4 from by omega)with rfl|rfl|rfl|rfl
   all_goals
    rw[(mF (by omega) (by omega) h h1).1,(mF (by omega) (by omega) h h1).2]
    go_enter Tryz.func51,Tryz.ntmps51
    go_wp2_with(go_at_call 49;refine(da _ _ _ _).mono ?_;rintro e w' ⟨rfl,rfl⟩)
    go_quiet((first|(go_at_call 73;exact eU (fun W=>wU _ W h h1))|(go_at_call 74;exact eU (fun W=>wT _ W h h1))|(go_at_call 75;exact eU (fun W=>wS _ W h h1))|(go_at_call 76;exact eU (fun W=>wR _ W h h1))))
    go_wp2
    go_ret2
    exact⟨rfl,(bA (ai _ _) _).trans ⟨rfl,rfl,rfl,Nat.le_refl _,fun _ _=>rfl⟩⟩
end Plc
namespace Plc
open Go.RowKit
def ReadsR(w:World)(B:Nat)(v:Value)(rs:List (Int×Int)):Prop :=
 rs.length<=8796093021952/\∃ (a:Option Addr) (c:Nat),v=.slice a rs.length c/\rs.length<=c/\c<=9223372036854775807 /\
  (rs=[]\/∃ b off,a=some ⟨b,off,none⟩/\b<B/\∀ i,i<rs.length->w.cell? ⟨b,off+i*2,none⟩=some (.int .i64 (rs.getD i (0,0)).1)/\w.cell? ⟨b,off+i*2+1,none⟩=some (.int .i64 (rs.getD i (0,0)).2))
theorem ReadsR.below{w w':World}{B:Nat}{v:Value}{rs:List (Int×Int)}(h:ReadsR w B v rs)(hb:Below B w w'):ReadsR w' B v rs:=by
 obtain⟨h1,a,c,rfl,hc,hm,h3⟩:=h
 refine⟨h1,a,c,rfl,hc,hm,?_⟩
 rcases h3 with h3|⟨b,off,rfl,hB,hcell⟩
 ·exact .inl h3
 ·exact .inr ⟨b,off,rfl,hB,fun i hi=>⟨(hb.cell (p:=⟨b,off+i*2,none⟩) hB).trans (hcell i hi).1,(hb.cell (p:=⟨b,off+i*2+1,none⟩) hB).trans (hcell i hi).2⟩⟩
theorem ReadsR.mono{w:World}{B B':Nat}{v:Value}{rs:List (Int×Int)}(h:ReadsR w B v rs)(hb:B<=B'):ReadsR w B' v rs:=by
 obtain⟨h1,a,c,rfl,hc,hm,h3⟩:=h
 refine⟨h1,a,c,rfl,hc,hm,?_⟩
 rcases h3 with h3|⟨b,off,rfl,hB,hcell⟩
 ·exact .inl h3
 ·exact .inr ⟨b,off,rfl,by omega,hcell⟩
structure Cfg where
 raw:Int
 ring:Int
 writes:Int
 stamps:Int
 multi:Bool
 tries:Int
def Cfg.cells(c:Cfg)(rv:Value):Array Value:=#[.int .i64 c.raw,.int .i64 c.ring,.int .i64 c.writes,.int .i64 c.stamps,.bool c.multi,.int .i64 c.tries,rv]
def Cfg.val(c:Cfg)(rv:Value):Value:=.agg (c.cells rv)
def gr(c:Cfg)(n:Nat):Bool:=decide (1<=c.raw/\c.raw<=64/\1<=c.ring/\c.ring<=16/\1<=c.writes/\c.writes<=24/\1<=c.stamps/\c.stamps<=1099511627776/\1<=c.tries/\c.tries<=255/\n<=8)
def va(rs:List (Int×Int)):Bool:=rs.all fun r=>regB r.1 r.2
def checkE(c:Cfg)(rs:List (Int×Int)):Int:=if gr c rs.length=true/\va rs=true then 0 else 13
theorem nC{c:Cfg}{rs:List (Int×Int)}(h:gr c rs.length=false):checkE c rs=13:=by simp[checkE,h]
theorem check_reg{c:Cfg}{rs:List (Int×Int)}{k:Nat}(hk:k<rs.length)(h:regB (rs.getD k (0,0)).1 (rs.getD k (0,0)).2=false):checkE c rs=13:=by
 have:va rs=false:=by
  unfold va
  rw[List.all_eq_false]
  refine⟨rs[k],List.getElem_mem hk,?_⟩
  simpa[List.getD_eq_getElem?_getD,hk]using h
 simp[checkE,this]
theorem sP{c:Cfg}{rs:List (Int×Int)}(h:gr c rs.length=true)(hr:∀ j,j<rs.length->regB (rs.getD j (0,0)).1 (rs.getD j (0,0)).2=true):checkE c rs=0:=by
 have:va rs=true:=by
  unfold va
  rw[List.all_eq_true]
  intro r hm
  obtain⟨j,hj,rfl⟩:=List.getElem_of_mem hm
  simpa[List.getD_eq_getElem?_getD,hj]using hr j hj
 simp[checkE,this,h]
theorem mH{kind cap:Int}{b:Bool}(h:regB kind cap=b):sm kind cap=if b=true then 0 else 13:=by subst h;rfl
theorem iD{w:World}{g:Nat}{a b c d e f h:Value}{t:TypeId}(hg:w.heap[g]?=some (.cells #[a,b,c,d,e,f,h] t (0,0))) :
  w.cell? ⟨g,0,none⟩=some a/\w.cell? ⟨g,1,none⟩=some b/\w.cell? ⟨g,2,none⟩=some c/\w.cell? ⟨g,3,none⟩=some d/\w.cell? ⟨g,4,none⟩=some e/\w.cell? ⟨g,5,none⟩=some f/\w.cell? ⟨g,6,none⟩=some h:=by
 have hc:=fun j=>cell_of_row w g j _ _ _ hg
 refine⟨?_,?_,?_,?_,?_,?_,?_⟩
 ·simpa using hc 0
 ·simpa using hc 1
 ·simpa using hc 2
 ·simpa using hc 3
 ·simpa using hc 4
 ·simpa using hc 5
 ·simpa using hc 6
theorem uw(w:World)(B:Nat)(c:Cfg)(v:Value)(rs:List (Int×Int))(hr:ReadsR w B v rs)(hf:gr c rs.length=false) :
  Calls Tryz.prog 29 #[c.val v] w (dd (.int .i64 13) w):=by
 obtain⟨hl,a,cp,rfl,hcp,hcm,-⟩:=hr
 obtain⟨raw,ring,writes,stamps,multi,tries⟩:=c
 have hf':=of_decide_eq_false hf
 dsimp only at hf'
 unfold Cfg.val Cfg.cells
 dsimp only
 clear hf
 rcases(show(raw<1\/64<raw)\/(1<=raw/\raw<=64)from by omega)with h1|⟨h1,h1'⟩
 ·have g1:=eM h1
  clear hf' h1
  go_enter Tryz.func29,Tryz.ntmps29
  go_wp2_with(first|(go_at_call 49;refine(da _ _ _ _).mono ?_;rintro e w' ⟨rfl,rfl⟩)|(go_at_call 50;refine(dw _ _ _ _).mono ?_;rintro e w' ⟨rfl,rfl⟩))
  go_ret
  exact⟨rfl,ai _ _⟩
 have g1:=dD h1 h1'
 rcases(show(ring<1\/16<ring)\/(1<=ring/\ring<=16)from by omega)with h2|⟨h2,h2'⟩
 ·have g2:=eM h2
  clear hf' h2
  go_enter Tryz.func29,Tryz.ntmps29
  go_wp2_with(first|(go_at_call 49;refine(da _ _ _ _).mono ?_;rintro e w' ⟨rfl,rfl⟩)|(go_at_call 50;refine(dw _ _ _ _).mono ?_;rintro e w' ⟨rfl,rfl⟩))
  go_ret
  exact⟨rfl,ai _ _⟩
 have g2:=dD h2 h2'
 rcases(show(writes<1\/24<writes)\/(1<=writes/\writes<=24)from by omega)with h3|⟨h3,h3'⟩
 ·have g3:=eM h3
  clear hf' h3
  go_enter Tryz.func29,Tryz.ntmps29
  go_wp2_with(first|(go_at_call 49;refine(da _ _ _ _).mono ?_;rintro e w' ⟨rfl,rfl⟩)|(go_at_call 50;refine(dw _ _ _ _).mono ?_;rintro e w' ⟨rfl,rfl⟩))
  go_ret
  exact⟨rfl,ai _ _⟩
 have g3:=dD h3 h3'
 rcases(show(stamps<1\/1099511627776<stamps)\/(1<=stamps/\stamps<=1099511627776)from by omega)with h4|⟨h4,h4'⟩
 ·have g4:=eM h4
  clear hf' h4
  go_enter Tryz.func29,Tryz.ntmps29
  go_wp2_with(first|(go_at_call 49;refine(da _ _ _ _).mono ?_;rintro e w' ⟨rfl,rfl⟩)|(go_at_call 50;refine(dw _ _ _ _).mono ?_;rintro e w' ⟨rfl,rfl⟩))
  go_ret
  exact⟨rfl,ai _ _⟩
 have g4:=dD h4 h4'
 rcases(show(tries<1\/255<tries)\/(1<=tries/\tries<=255)from by omega)with h5|⟨h5,h5'⟩
 ·have g5:=eM h5
  clear hf' h5
  go_enter Tryz.func29,Tryz.ntmps29
  go_wp2_with(first|(go_at_call 49;refine(da _ _ _ _).mono ?_;rintro e w' ⟨rfl,rfl⟩)|(go_at_call 50;refine(dw _ _ _ _).mono ?_;rintro e w' ⟨rfl,rfl⟩))
  go_ret
  exact⟨rfl,ai _ _⟩
 have g5:=dD h5 h5'
 have h6:(8:Int)<(rs.length:Int):=by omega
 clear hf'
 go_enter Tryz.func29,Tryz.ntmps29
 go_wp2_with(first|(go_at_call 49;refine(da _ _ _ _).mono ?_;rintro e w' ⟨rfl,rfl⟩)|(go_at_call 50;refine(dw _ _ _ _).mono ?_;rintro e w' ⟨rfl,rfl⟩))
 go_ret
 exact⟨rfl,ai _ _⟩
theorem zg(w:World)(B:Nat)(c:Cfg)(v:Value)(rs:List (Int×Int))(hr:ReadsR w B v rs)(hB:B<=w.heap.size)(hf:gr c rs.length=true) :
  Calls Tryz.prog 29 #[c.val v] w (dd (.int .i64 (checkE c rs)) w):=by
 obtain⟨hl,a,cp,rfl,hcp,hcm,hr⟩:=hr
 have HALL:=kH (sP hf)
 have HREG:=kH (fun k hk h=>check_reg (c:=c) (rs:=rs) (k:=k) hk h)
 generalize checkE c rs=E at *
 obtain⟨raw,ring,writes,stamps,multi,tries⟩:=c
 obtain⟨h1,h1',h2,h2',h3,h3',h4,h4',h5,h5',h6⟩:=of_decide_eq_true hf
 dsimp only at h1 h1' h2 h2' h3 h3' h4 h4' h5 h5'
 have g1:=dD h1 h1'
 have g2:=dD h2 h2'
 have g3:=dD h3 h3'
 have g4:=dD h4 h4'
 have g5:=dD h5 h5'
 have h6':(rs.length:Int)<=8:=by omega
 have HR:=kH hr
 unfold Cfg.val Cfg.cells
 dsimp only
 clear hf hr
 go_enter Tryz.func29,Tryz.ntmps29
 go_wp2_with(first|(go_at_call 49;refine(da _ _ _ _).mono ?_;rintro e w' ⟨rfl,rfl⟩)|(go_at_call 50;refine(dw _ _ _ _).mono ?_;rintro e w' ⟨rfl,rfl⟩))
 go_loopg[44] (rs.length+1) (fun n v44 wr=>∃ (k:Nat),k<=rs.length/\v44=.int .i64 k/\n+k=rs.length+1/\(∀ j,j<k->regB (rs.getD j (0,0)).1 (rs.getD j (0,0)).2=true)/\Below w.heap.size w wr)
 case atStart=>exact⟨0,Nat.zero_le _,rfl,rfl,fun j hj=>by omega,ai _ _⟩
 case round =>
  obtain⟨k,hk,rfl,hn,hall,bel⟩:=hrel
  have HN:=kH hn
  have HA:=kH hall
  clear hn hall
  by_cases hlt:k<rs.length
  ·rcases HR.out with h|⟨b,off,rfl,hbB,hcell⟩
   ·exact absurd hlt (by rw[h];simp)
   have hc0:=(bel.cell (p:=⟨b,off+k*2,none⟩) (by simp;omega)).trans (hcell k hlt).1
   have hc1:=(bel.cell (p:=⟨b,off+k*2+1,none⟩) (by simp;omega)).trans (hcell k hlt).2
   have hreg:=HREG.out k hlt
   have HA':Hid (regB (rs.getD k (0,0)).1 (rs.getD k (0,0)).2=true->∀ j,j<k+1->regB (rs.getD j (0,0)).1 (rs.getD j (0,0)).2=true):=fun h j hj=>by
    by_cases e:j=k
    ·subst e;exact h
    ·exact HA.out j (by omega)
   generalize (rs.getD k (0,0)).1=kind at *
   generalize (rs.getD k (0,0)).2=cap at *
   have hbs:b<wr.heap.size:=by have:=bel.size;omega
   have hlt':(k:Int)<(rs.length:Int):=by omega
   clear hcell
   by_cases hb:regB kind cap=true
   ·have he:=mH hb
    rw[if_pos rfl]at he
    clear hreg
    have HB:=kH hb
    have HE:=kH he
    clear hb he
    go_wp2_with fail
    refine(mA kind cap _).mono ?_
    rintro e w1 ⟨rfl,hb1⟩
    simp only[mG,HE.out]
    go_wp2
    go_roundg (rs.length-k)
    case measure=>have:=HN.out;omega
    case rel=>exact⟨k+1,by omega,by go_num,by omega,HA'.out HB.out,bel.trans ((dK (ai _ _) hb1).mono bel.size)⟩
   ·have hb':regB kind cap=false:=by simpa using hb
    have he:=mH hb'
    rw[if_neg (by decide)]at he
    have HE:=kH he
    have HF:=kH (hreg hb')
    clear hb hb' he hreg
    go_wp2_with fail
    refine(mA kind cap _).mono ?_
    rintro e w1 ⟨rfl,hb1⟩
    simp only[mG,HE.out]
    go_wp2
    go_ret
    exact⟨by rw[HF.out];rfl,bel.trans ((dK (ai _ _) hb1).mono bel.size)⟩
  ·have HF:=kH (HALL.out (fun j hj=>HA.out j (by omega)))
   have hk':k=rs.length:=by omega
   subst hk'
   go_wp2
   go_ret
   exact⟨by rw[HF.out];rfl,bel⟩
theorem Check_calls(w:World)(B:Nat)(c:Cfg)(v:Value)(rs:List (Int×Int))(hr:ReadsR w B v rs)(hB:B<=w.heap.size) :
  Calls Tryz.prog 29 #[c.val v] w (dd (.int .i64 (checkE c rs)) w):=by
 by_cases hf:gr c rs.length=true
 ·exact zg w B c v rs hr hB hf
 ·rw[nC (by simpa using hf)]
  exact uw w B c v rs hr (by simpa using hf)
end Plc
theorem DA{H:Type}(d:DataW H):1<=Rows.uptoBulk d:=by
 cases d with
 | lit l=>cases l<;>simp[Rows.uptoBulk]
 | nil=>simp[Rows.uptoBulk]
 | ptr d=>simp[Rows.uptoBulk]
 | slice elems spare=>simp[Rows.uptoBulk]
 | agg parts=>simp[Rows.uptoBulk]
 | iface t d=>simp[Rows.uptoBulk]
 | map entries=>simp[Rows.uptoBulk]
 | held h=>simp[Rows.uptoBulk]
theorem DB{H:Type}(l:List (DataW H)):l.length<=Rows.uptoBulkAll l:=by
 induction l with
 | nil=>simp[Rows.uptoBulkAll]
 | cons x r ih=>have:=DA x;simp only[Rows.uptoBulkAll,List.length_cons];omega
theorem wE{H:Type}{d e:DataW H}(h:Rows.uptoSmall H ([d,e]++[])=true):Rows.uptoBulk e<=1048576:=by
 have h2:=of_decide_eq_true h
 simp only[Rows.uptoBulkAll,List.append_nil]at h2
 omega
theorem rP{x:Int}(h:uy x):∃ n:Nat,x=n/\n<18446744073709551616:=by
 unfold uy at h
 exact⟨x.toNat,by omega,by omega⟩
theorem kN(a b:Nat)(ha:a<18446744073709551616)(hb:b<18446744073709551616):bits .or .u64 (a:Int) (b:Int)=((a ||| b:Nat):Int):=by
 have h1:a ||| b<18446744073709551616:=Nat.or_lt_two_pow (n:=64) ha hb
 unfold bits
 simp only[BitVec.toNat_or,BitVec.toNat_ofInt,IntKind.wrap_u64]
 have e1:((a:Int)%((2 ^ IntKind.u64.bits:Nat):Int)).toNat=a:=by
  show((a:Int)%18446744073709551616).toNat=a
  omega
 have e2:((b:Int)%((2 ^ IntKind.u64.bits:Nat):Int)).toNat=b:=by
  show((b:Int)%18446744073709551616).toNat=b
  omega
 rw[e1,e2]
 omega
theorem uf(a b:Nat)(ha:a<18446744073709551616)(hb:b<18446744073709551616):bits .and .u64 (a:Int) (b:Int)=((a &&& b:Nat):Int):=by
 have h1:a &&& b<18446744073709551616:=Nat.lt_of_le_of_lt Nat.and_le_left ha
 unfold bits
 simp only[BitVec.toNat_and,BitVec.toNat_ofInt,IntKind.wrap_u64]
 have e1:((a:Int)%((2 ^ IntKind.u64.bits:Nat):Int)).toNat=a:=by
  show((a:Int)%18446744073709551616).toNat=a
  omega
 have e2:((b:Int)%((2 ^ IntKind.u64.bits:Nat):Int)).toNat=b:=by
  show((b:Int)%18446744073709551616).toNat=b
  omega
 rw[e1,e2]
 omega
def hasB(s:List Int)(k:Nat):Bool:=(s.getD (k/64) 0).toNat.testBit (k%64)
theorem vX(s:List Int)(i:Nat)(v:Int)(h:i<s.length):(s.set i v).getD i 0=v:=by
 rw[List.getD_eq_getElem?_getD,List.getElem?_set_self h]
 rfl
theorem vW(s:List Int)(i j:Nat)(v:Int)(h:i≠j):(s.set i v).getD j 0=s.getD j 0:=by
 rw[List.getD_eq_getElem?_getD,List.getD_eq_getElem?_getD,List.getElem?_set_ne h]
theorem ig(r:Nat)(h:r<64):2 ^ r<18446744073709551616:=Nat.pow_lt_pow_right (m:=r) (n:=64) (by decide) h
theorem jL{s:List Int}(hs:aU s){j:Nat}(hj:j<512)(k:Nat):hasB (cT s j) k=(hasB s k||decide (j=k)):=by
 unfold hasB cT
 obtain⟨n,hn,hl⟩:=rP (dx hs.2 (j/64))
 by_cases e:j/64=k/64
 ·rw[<-e,vX _ _ _ (by rw[hs.1];omega),hn,kN _ _ hl (ig _ (Nat.mod_lt _ (by decide)))]
  simp only[Int.toNat_natCast,Nat.testBit_or,Nat.testBit_two_pow]
  congr 1
  rw[Bool.eq_iff_iff]
  simp only[decide_eq_true_eq]
  omega
 ·rw[vW _ _ _ _ e]
  have:decide (j=k)=false:=by simp;intro h;exact e (by rw[h])
  rw[this,Bool.or_false]
theorem xW(s c d x:Nat):vt s c d x<18446744073709551616:=by
 unfold vt
 have hzl:((x ^^^ x/s)*c%18446744073709551616 ^^^ (x ^^^ x/s)*c%18446744073709551616/s)*d%18446744073709551616<18446744073709551616:=Nat.mod_lt _ (by decide)
 generalize ((x ^^^ x/s)*c%18446744073709551616 ^^^ (x ^^^ x/s)*c%18446744073709551616/s)*d%18446744073709551616=z at *
 exact Nat.xor_lt_two_pow (n:=64) hzl (Nat.lt_of_le_of_lt (Nat.div_le_self _ _) hzl)
theorem vT(c:Int):ek c<512:=by
 unfold ek
 have:oz (fZ c).toNat<18446744073709551616:=xW _ _ _ _
 generalize oz (fZ c).toNat=x at *
 omega
theorem im{s:List Int}(hs:aU s)(c:Int)(k:Nat):hasB (be s c) k=(hasB s k||decide (ek c=k)):=jL hs (vT c) k
theorem A4(k:Nat):hasB bQ k=false:=by
 unfold hasB
 have:bQ.getD (k/64) 0=0:=by
  have h:=dx cD.2 (k/64)
  rw[List.getD_eq_getElem?_getD]
  rcases Nat.lt_or_ge (k/64) 8 with hi|hi
  ·rw[List.getElem?_eq_getElem (by simpa[bQ]using hi)]
   have hm:bQ[k/64]'(by simpa[bQ]using hi)∈bQ:=List.getElem_mem _
   have h0:∀ x∈bQ,x=0:=fun x hx=>by simpa[bQ]using hx
   exact h0 _ hm
  ·rw[List.getElem?_eq_none (by simpa[bQ]using hi)]
   rfl
 rw[this]
 simp
theorem tq{a b:List Int}(ha:aU a)(hb:aU b)(h:∀ k,k<512->hasB a k=hasB b k):a=b:=by
 apply List.ext_getElem
 ·rw[ha.1,hb.1]
 ·intro i h1 h2
  obtain⟨n,hn,hnl⟩:=rP (ha.2 _ (List.getElem_mem h1))
  obtain⟨m,hm,hml⟩:=rP (hb.2 _ (List.getElem_mem h2))
  rw[hn,hm]
  congr 1
  apply Nat.eq_of_testBit_eq
  intro j
  by_cases hj:j<64
  ·have hk:=h (64*i+j) (by rw[ha.1]at h1;omega)
   unfold hasB at hk
   rw[show(64*i+j)/64=i by omega,show(64*i+j)%64=j by omega,List.getD_eq_getElem?_getD,List.getD_eq_getElem?_getD,List.getElem?_eq_getElem h1,List.getElem?_eq_getElem h2]at hk
   simpa[hn,hm]using hk
  ·rw[Nat.testBit_lt_two_pow (Nat.lt_of_lt_of_le hnl (Nat.pow_le_pow_right (n:=2) (i:=64) (by decide) (by omega))),Nat.testBit_lt_two_pow (Nat.lt_of_lt_of_le hml (Nat.pow_le_pow_right (n:=2) (i:=64) (by decide) (by omega)))]
theorem tf{s:List Int}(hs:aU s){c:Int}(h:hasB s (ek c)=true):be s c=s:=by
 refine tq (cF hs c) hs fun k _=>?_
 rw[im hs]
 by_cases e:ek c=k
 ·subst e;simp[h]
 ·simp[e]
theorem qS:∀ (l:List (Int×Int)) {s:List Int},aU s->∀ k,hasB s k=true\/(∃ x∈l,ek x.1=k)->hasB (l.foldl (fun s w=>be s w.1) s) k=true
 | [],_,_,k,h=>h.elim id (fun⟨_,hx,_⟩=>(nomatch hx))
 | x::l,s,hs,k,h=>by
  refine qS l (cF hs x.1) k ?_
  rw[im hs]
  rcases h with h|⟨y,hy,e⟩
  ·left;simp[h]
  ·rcases List.mem_cons.1 hy with rfl|hy
   ·left;simp[e]
   ·exact .inr ⟨y,hy,e⟩
theorem Au(l:List (Int×Int))(x:Int×Int):dZ (l++[x])=be (dZ l) x.1:=by
 unfold dZ
 rw[List.foldl_append]
 rfl
theorem u3{l l':List (Int×Int)}(h:l.map (·.1)=l'.map (·.1)):dZ l=dZ l':=by
 have key:∀ (l:List (Int×Int)) (s:List Int),l.foldl (fun s w=>be s w.1) s=(l.map (·.1)).foldl be s:=fun l=>by
  induction l with
  | nil=>intro s;rfl
  | cons x l ih=>intro s;exact ih _
 unfold dZ
 rw[key,key,h]
theorem uZ{l:List (Int×Int)}{c:Int}(h:∃ x∈l,x.1=c):be (dZ l) c=dZ l:=by
 obtain⟨x,hx,rfl⟩:=h
 exact tf (kr l) (qS l cD _ (.inr ⟨x,hx,rfl⟩))
theorem Aa{l:List (Int×Int)}{c v:Int}:be (dZ l) c=dZ (fT l c v):=by
 cases ho:(eR l c).isNone with
 | true =>
  rw[gU (lz ho),Au]
 | false =>
  rw[gT ho]
  rw[u3 (gM l c v)]
  refine uZ ?_
  cases hf:eR l c with
  | none=>rw[hf]at ho;simp at ho
  | some v=>exact⟨(c,v),qA hf,rfl⟩
def ij(a b:List Int):Bool:=(List.range 8).any fun j=>decide (bits .and .u64 (a.getD j 0) (b.getD j 0)≠0)
theorem Al{x:Int}(h:uy x):fZ (iA x)=x:=by
 unfold uy at h
 unfold fZ iA
 split<;>omega
theorem rQ{a b:List Int}(ha:aU a){j:Nat}(hj:j<8)(h:ks (iA (a.getD j 0)) (b.getD j 0)=true):ij a b=true:=by
 unfold ks at h
 rw[Al (dx ha.2 j)]at h
 unfold ij
 rw[List.any_eq_true]
 exact⟨j,by simpa using hj,h⟩
theorem yP(a b:Nat)(ha:a<18446744073709551616)(hb:b<18446744073709551616)(h:∀ i,a.testBit i=true->b.testBit i=true):bits .andNot .u64 (a:Int) (b:Int)=0:=by
 unfold bits
 have key:(BitVec.ofInt IntKind.u64.bits (a:Int) &&& ~~~ BitVec.ofInt IntKind.u64.bits (b:Int))=0#_:=by
  apply BitVec.eq_of_getLsbD_eq
  intro i hi
  have e1:(BitVec.ofInt IntKind.u64.bits (a:Int)).getLsbD i=a.testBit i:=by
   rw[BitVec.getLsbD,BitVec.toNat_ofInt]
   show((a:Int)%18446744073709551616).toNat.testBit i=_
   congr 1
   omega
  have e2:(BitVec.ofInt IntKind.u64.bits (b:Int)).getLsbD i=b.testBit i:=by
   rw[BitVec.getLsbD,BitVec.toNat_ofInt]
   show((b:Int)%18446744073709551616).toNat.testBit i=_
   congr 1
   omega
  rw[BitVec.getLsbD_and,BitVec.getLsbD_not,e1,e2]
  cases ha:a.testBit i
  ·simp
  ·simp[h i ha]
 simp only[key]
 rfl
theorem rl{s t:List Int}(hs:aU s)(ht:aU t)(h:∀ k,hasB s k=true->hasB t k=true)(j:Nat):bits .andNot .u64 (s.getD j 0) (t.getD j 0)=0:=by
 obtain⟨n,hn,hl⟩:=rP (dx hs.2 j)
 obtain⟨m,hm,hml⟩:=rP (dx ht.2 j)
 rw[hn,hm]
 refine yP n m hl hml fun i hi=>?_
 by_cases hi6:i<64
 ·have:=h (64*j+i) (by
   unfold hasB
   rw[show(64*j+i)/64=j by omega,show(64*j+i)%64=i by omega,hn]
   simpa using hi)
  unfold hasB at this
  rw[show(64*j+i)/64=j by omega,show(64*j+i)%64=i by omega,hm]at this
  simpa using this
 ·rw[Nat.testBit_lt_two_pow (Nat.lt_of_lt_of_le hl (Nat.pow_le_pow_right (n:=2) (i:=64) (by decide) (by omega)))]at hi
  simp at hi
theorem wK{s:List Int}(hs:aU s)(c:Int)(j:Nat):bits .andNot .u64 (s.getD j 0) ((be s c).getD j 0)=0 :=
 rl hs (cF hs c) (fun k hk=>by rw[im hs,hk];rfl) j
theorem wL{s:List Int}(hs:aU s)(j:Nat):bits .andNot .u64 (s.getD j 0) (s.getD j 0)=0:=rl hs hs (fun _ h=>h) j
theorem qW(x k:Nat)(hx:x<18446744073709551616)(hk:k<=64)(w:World):Calls Tryz.prog 48 #[.int .u64 (x:Nat),.int .i64 (k:Nat)] w (dm (.int .u64 (x/2 ^ k:Nat)) w):=by
 go_enter Tryz.func48,Tryz.ntmps48
 go_wp2
 go_loopg[0,5] (k+1) (fun n v0 v5 wr=>∃ j:Nat,j<=k/\v0=.int .u64 ((x/2 ^ j:Nat):Int)/\v5=.int .i64 j/\n+j=k+1/\wr=w)
 case atStart=>exact⟨0,Nat.zero_le _,by simp,rfl,rfl,rfl⟩
 case round =>
  obtain⟨j,hj,rfl,rfl,hn,rfl⟩:=hrel
  have HN:=kH hn
  clear hn
  have hjk:(j:Int)<=(k:Int):=by omega
  by_cases hlt:j<k
  ·have hlt':(j:Int)<(k:Int):=by omega
   have hs:x/2 ^ (j+1)=x/2 ^ j/2:=by rw[Nat.pow_succ,Nat.div_div_eq_div_mul]
   have HS:=kH hs
   have hyl:x/2 ^ j<=x:=Nat.div_le_self _ _
   clear hs
   obtain⟨y,hy⟩:∃ y,x/2 ^ j=y:=⟨_,rfl⟩
   rw[hy]at HS hyl ⊢
   clear hy
   have hq:((y:Int)/2)=((y/2:Nat):Int):=by omega
   have hyy:(y:Int)<18446744073709551616:=by omega
   generalize y/2=z at *
   go_wp2
   go_roundg (k-j)
   case measure=>have:=HN.out;omega
   case rel=>exact⟨j+1,by omega,by rw[HS.out],by go_num,by have:=HN.out;omega,rfl⟩
  ·obtain rfl:j=k:=by omega
   go_wp2
   go_ret
   exact⟨rfl,rfl⟩
theorem uJ(x y o X Y:Nat)(h:(o+x*y)%18446744073709551616=X*Y%18446744073709551616) :
  ((if y%2=1 then(o+x)%18446744073709551616 else o)+(x+x)%18446744073709551616*(y/2))%18446744073709551616=X*Y%18446744073709551616:=by
 rw[<-h]
 have e1:∀ a b:Nat,(a+(x+x)%18446744073709551616*b)%18446744073709551616=(a+(x+x)*b)%18446744073709551616:=fun a b=>by
  rw[Nat.add_mod,Nat.mul_mod,Nat.mod_mod,<-Nat.mul_mod,<-Nat.add_mod]
 rw[e1]
 have hy:=Nat.div_add_mod y 2
 have e2:(x+x)*(y/2)=x*(2*(y/2)):=by rw[<-Nat.two_mul,Nat.mul_comm 2 x,Nat.mul_assoc]
 rw[e2]
 split
 ·rename_i h1
  have e3:x*y=x*(2*(y/2))+x:=by
   have:y=2*(y/2)+1:=by omega
   rw[<-Nat.mul_succ]
   exact congrArg _ this
  rw[e3]
  generalize x*(2*(y/2))=z
  omega
 ·rename_i h1
  have e3:x*y=x*(2*(y/2)):=congrArg _ (show y=2*(y/2) by omega)
  rw[e3]
theorem uK(X Y:Nat)(hx:X<18446744073709551616)(hy:Y<18446744073709551616)(w:World):Calls Tryz.prog 72 #[.int .u64 (X:Nat),.int .u64 (Y:Nat)] w (dm (.int .u64 (X*Y%18446744073709551616:Nat)) w):=by
 have HT:=kH (fun x y o=>uJ x y o X Y)
 obtain⟨R,hR⟩:∃ R,X*Y%18446744073709551616=R:=⟨_,rfl⟩
 have HX:=kH (show(0+X*Y)%18446744073709551616=X*Y%18446744073709551616 by rw[Nat.zero_add])
 rw[hR]at HX ⊢
 simp only[hR]at HT
 have HR:=kH (show R<18446744073709551616 by rw[<-hR];exact Nat.mod_lt _ (by decide))
 clear hR
 go_enter Tryz.func72,Tryz.ntmps72
 go_wp2
 go_loopg[0,1,5,6] 65 (fun n v0 v1 v5 v6 wr=>∃ (j x y o:Nat),j<=64/\v0=.int .u64 (x:Nat)/\v1=.int .u64 (y:Nat)/\v5=.int .u64 (o:Nat)/\v6=.int .i64 j/\n+j=65/\wr=w/\x<18446744073709551616/\y<2 ^ (64-j)/\o<18446744073709551616/\(o+x*y)%18446744073709551616=R)
 case atStart=>exact⟨0,X,Y,0,by omega,rfl,rfl,rfl,rfl,rfl,rfl,hx,hy,by omega,HX.out⟩
 case round =>
  obtain⟨j,x,y,o,hj,rfl,rfl,rfl,rfl,hn,rfl,hx,hy,ho,he⟩:=hrel
  have HN:=kH hn
  have HE:=kH he
  have HY:=kH hy
  clear hn he hy
  by_cases hlt:j<64
  ·have hlt':(j:Int)<64:=by omega
   have HE2:=kH (HT.out x y o HE.out)
   have HY2:Hid (y/2<2 ^ (64-(j+1))):=by
    have h:=HY.out
    rw[show 64-j=(64-(j+1))+1 by omega,Nat.pow_succ]at h
    exact Nat.div_lt_of_lt_mul (by rw[Nat.mul_comm];exact h)
   have hyy:y<18446744073709551616:=Nat.lt_of_lt_of_le HY.out (Nat.pow_le_pow_right (n:=2) (i:=64-j) (j:=64) (by decide) (by omega))
   have hq:((y:Int)/2)=((y/2:Nat):Int):=by omega
   have hr:((y:Int)%2)=((y%2:Nat):Int):=by omega
   have hyy':(y:Int)<18446744073709551616:=by omega
   have w1:IntKind.u64.wrap ((x:Int)+(x:Int))=(((x+x)%18446744073709551616:Nat):Int):=by rw[IntKind.wrap_u64];omega
   have w2:IntKind.u64.wrap ((o:Int)+(x:Int))=(((o+x)%18446744073709551616:Nat):Int):=by rw[IntKind.wrap_u64];omega
   have l1:(x+x)%18446744073709551616<18446744073709551616:=Nat.mod_lt _ (by decide)
   have l2:(o+x)%18446744073709551616<18446744073709551616:=Nat.mod_lt _ (by decide)
   have HL:=kH (And.intro l1 l2)
   clear HT HY l1 l2
   generalize y/2=z at *
   generalize (x+x)%18446744073709551616=xx at *
   generalize (o+x)%18446744073709551616=ox at *
   rcases Nat.mod_two_eq_zero_or_one y with h2|h2
   ·rw[h2]at hr HE2
    go_wp2
    go_roundg (64-j)
    case measure=>have:=HN.out;omega
    case rel=>exact⟨j+1,_,z,o,by omega,rfl,rfl,rfl,by go_num,by have:=HN.out;omega,rfl,HL.out.1,HY2.out,ho,by have h:=HE2.out;rwa [if_neg (by decide)]at h⟩
   ·rw[h2]at hr HE2
    go_wp2
    go_roundg (64-j)
    case measure=>have:=HN.out;omega
    case rel=>exact⟨j+1,_,z,_,by omega,rfl,rfl,rfl,by go_num,by have:=HN.out;omega,rfl,HL.out.1,HY2.out,HL.out.2,by have h:=HE2.out;rwa [if_pos True.intro]at h⟩
  ·obtain rfl:j=64:=by omega
   have hoR:o=R:=by
    have h1:=HY.out
    have h2:=HE.out
    obtain rfl:y=0:=by simpa using h1
    rw[Nat.mul_zero,Nat.add_zero,Nat.mod_eq_of_lt ho]at h2
    exact h2
   subst hoR
   go_wp2
   go_ret
   exact⟨rfl,rfl⟩
theorem ue(a b:Nat)(ha:a<18446744073709551616)(hb:b<18446744073709551616):bits .xor .u64 (a:Int) (b:Int)=((a ^^^ b:Nat):Int):=by
 have h1:a ^^^ b<18446744073709551616:=Nat.xor_lt_two_pow (n:=64) ha hb
 unfold bits
 simp only[BitVec.toNat_xor,BitVec.toNat_ofInt,IntKind.wrap_u64]
 have e1:((a:Int)%((2 ^ IntKind.u64.bits:Nat):Int)).toNat=a:=by
  show((a:Int)%18446744073709551616).toNat=a
  omega
 have e2:((b:Int)%((2 ^ IntKind.u64.bits:Nat):Int)).toNat=b:=by
  show((b:Int)%18446744073709551616).toNat=b
  omega
 rw[e1,e2]
 omega
theorem tD(x:Nat)(hx:x<18446744073709551616)(w:World):Calls Tryz.prog 47 #[.int .u64 (x:Nat)] w (dm (.int .u64 (oz x:Nat)) w):=by
 have hp:(2:Nat) ^ 33=8589934592:=by decide
 have HD:=kH (fun y (hy:y<18446744073709551616)=>by have h:=qW y 33 hy (by decide) w;rw[hp]at h;exact h)
 have HT:=kH (fun y c (hy:y<18446744073709551616) (hc:c<18446744073709551616)=>uK y c hy hc w)
 have HX:=kH ue
 unfold oz vt
 have HXL:=kH (fun(y:Nat) (hy:y<18446744073709551616)=>show y ^^^ y/8589934592<18446744073709551616 from Nat.xor_lt_two_pow (n:=64) hy (Nat.lt_of_le_of_lt (Nat.div_le_self _ _) hy))
 have HDL:=kH (fun(y:Nat) (hy:y<18446744073709551616)=>show y/8589934592<18446744073709551616 from Nat.lt_of_le_of_lt (Nat.div_le_self _ _) hy)
 have HML:=kH (fun(y:Nat)=>show y%18446744073709551616<18446744073709551616 from Nat.mod_lt _ (by decide))
 have HD1:=kH (HD.out x hx)
 have e1:=HX.out x _ hx (HDL.out x hx)
 have l1:=HXL.out x hx
 generalize x/8589934592=a1 at *
 generalize x ^^^ a1=x1 at *
 have HT1:=kH (HT.out x1 18397679294719823053 l1 (by decide))
 have l2:=HML.out (x1*18397679294719823053)
 obtain⟨x2,hx2⟩:∃ x2,x1*18397679294719823053%18446744073709551616=x2:=⟨_,rfl⟩
 rw[hx2]at HT1 l2 ⊢
 clear hx2
 have HD2:=kH (HD.out x2 l2)
 have e2:=HX.out x2 _ l2 (HDL.out x2 l2)
 have l3:=HXL.out x2 l2
 generalize x2/8589934592=a2 at *
 generalize x2 ^^^ a2=x3 at *
 have HT2:=kH (HT.out x3 14181476777654086739 l3 (by decide))
 have l4:=HML.out (x3*14181476777654086739)
 obtain⟨x4,hx4⟩:∃ x4,x3*14181476777654086739%18446744073709551616=x4:=⟨_,rfl⟩
 rw[hx4]at HT2 l4 ⊢
 clear hx4
 have HD3:=kH (HD.out x4 l4)
 have e3:=HX.out x4 _ l4 (HDL.out x4 l4)
 generalize x4/8589934592=a3 at *
 generalize x4 ^^^ a3=x5 at *
 clear HX HD HT HXL HDL HML l1 l2 l3 l4 hx hp
 go_enter Tryz.func47,Tryz.ntmps47
 go_wp2_with fail
 refine HD1.out.mono ?_
 rintro e w' ⟨rfl,rfl⟩
 go_wp2_with fail
 refine HT1.out.mono ?_
 rintro e w' ⟨rfl,rfl⟩
 go_wp2_with fail
 refine HD2.out.mono ?_
 rintro e w' ⟨rfl,rfl⟩
 go_wp2_with fail
 refine HT2.out.mono ?_
 rintro e w' ⟨rfl,rfl⟩
 go_wp2_with fail
 refine HD3.out.mono ?_
 rintro e w' ⟨rfl,rfl⟩
 go_wp2
 go_ret
 exact⟨rfl,rfl⟩
theorem oo(c:Int)(w:World):Calls Tryz.prog 23 #[.int .i64 c] w (dm (.int .i64 (ek c:Nat)) w):=by
 have hu:IntKind.u64.wrap c=(((fZ c).toNat:Nat):Int):=by
  rw[IntKind.wrap_u64];unfold fZ;omega
 have hul:(fZ c).toNat<18446744073709551616:=by unfold fZ;omega
 unfold ek
 generalize (fZ c).toNat=u at *
 have HC:=kH (tD u hul w)
 have hm:oz u<18446744073709551616:=tM _ _ _ _
 generalize oz u=x at *
 have hp:(2:Nat) ^ 55=36028797018963968:=by decide
 have HD:=kH (by have h:=qW x 55 hm (by decide) w;rw[hp]at h;exact h)
 have hl:x/36028797018963968<512:=by omega
 generalize x/36028797018963968=y at *
 clear hul hm hp
 go_enter Tryz.func23,Tryz.ntmps23
 go_wp2_with fail
 refine HC.out.mono ?_
 rintro e w' ⟨rfl,rfl⟩
 go_wp2_with fail
 refine HD.out.mono ?_
 rintro e w' ⟨rfl,rfl⟩
 go_wp2
 go_ret
 exact⟨rfl,rfl⟩
class ck(w:World)(g:Nat)(cs:outParam (Array Value)):Prop where
 at_:w.heap[g]?=some (.cells cs 42 (0,0))
 len:cs.size=8
class fR(cs:Array Value):Prop where
 len:cs.size=8
 one:cs.all (·.oneCell')=true
theorem dp{s:List Int}(h:s.length=8):fR (bH s) :=
 ⟨by simp[bH,h],by
  rw[Array.all_eq_true_iff_forall_mem]
  intro v hv
  unfold bH at hv
  simp only[List.mem_toArray,List.mem_map]at hv
  obtain⟨z,-,rfl⟩:=hv
  rfl⟩
def loadSig(p:Value):Sem Value:=Instr.loadAt 42 p
theorem jJ(p:Value):Instr.loadAt 42 p=loadSig p:=rfl
def storeSig(p v:Value):Sem Unit:=Instr.storeAt 42 p v
theorem iL(p v:Value):Instr.storeAt 42 p v=storeSig p v:=rfl
theorem iN{w:World}{g:Nat}{cs:Array Value} [h:ck w g cs]:(loadSig (.pointer (some ⟨g,0,none⟩))).run Tryz.prog w=.ok (.agg cs) w:=by
 unfold loadSig Instr.loadAt
 have e:=run_loadVar_row w g 42 42 cs (0,0) _ h.at_ Tryz.underlying42 rfl (by rw[fN,h.len])
 simp only[Instr.sureAddr,Sem.run_bind,Sem.run_pure,Result.andThen_ok,e]
theorem gI{w:World}{g:Nat}{c cs:Array Value} [h0:ck w g c] [h:fR cs]:(storeSig (.pointer (some ⟨g,0,none⟩)) (.agg cs)).run Tryz.prog w=.ok () (w.setRow g cs):=by
 unfold storeSig Instr.storeAt
 have e:=run_storeVar_row (P:=Tryz.prog) w g 42 42 c cs h0.at_ (by rw[fN,h.len]) (by rw[h0.len,h.len]) h.one
 simp only[Instr.sureAddr,Sem.run_bind,Sem.run_pure,Result.andThen_ok,e]
section
theorem mI{s:List Int}(hs:aU s){q:Nat}(hq:q<8):(bH s)[q]?=some (.int .u64 (s.getD q 0)):=by
 unfold bH
 rw[gA,List.getElem?_map,List.getD_eq_getElem?_getD,List.getElem?_eq_getElem (by rw[hs.1];exact hq)]
 rfl
theorem eZ(s:List Int)(k:Nat)(hs:aU s)(hk:k<512)(w:World):Calls Tryz.prog 27 #[dR s,.int .i64 (k:Nat)] w (dd (.bool (hasB s k)) w):=by
 obtain⟨v,hv,hvl⟩:=rP (dx hs.2 (k/64))
 have hcell:=mI hs (q:=k/64) (by omega)
 rw[hv]at hcell
 unfold hasB
 rw[hv,Int.toNat_natCast,Nat.testBit_eq_decide_div_mod_eq]
 obtain⟨q,r,hkk,hr⟩:∃ q r,k=64*q+r/\r<64:=⟨k/64,k%64,by omega,by omega⟩
 rw[show k/64=q by omega]at hcell
 rw[show k%64=r by omega]
 have k3:(((k:Int))/64)=(q:Int):=by omega
 have k2:(((k:Int))%64)=(r:Int):=by omega
 have k4:((q:Int))<8:=by omega
 have kt:(k:Int).tdiv 64=(q:Int):=by rw[Int.tdiv_eq_ediv_of_nonneg (by omega)];exact k3
 have km:(k:Int).tmod 64=(r:Int):=by rw[Int.tmod_eq_emod_of_nonneg (by omega)];exact k2
 have hrI:(r:Int)<64:=by omega
 clear hv
 unfold dR
 obtain⟨a0,a1,a2,a3,a4,a5,a6,a7,rfl⟩:=lT hs.1
 unfold bH at *
 simp only[List.map_cons,List.map_nil]at hcell ⊢
 clear hs hkk
 go_enter Tryz.func27,Tryz.ntmps27
 go_upto_region 1 with(fail)
 have hq:=cell_of_row _ w.heap.size q _ _ _ (ar (w:=w) (o:=.cells #[.int .u64 a0,.int .u64 a1,.int .u64 a2,.int .u64 a3,.int .u64 a4,.int .u64 a5,.int .u64 a6,.int .u64 a7] 42 (0,0)) rfl)
 rw[hcell]at hq
 have hbel:=kH (ai w (.cells #[.int .u64 a0,.int .u64 a1,.int .u64 a2,.int .u64 a3,.int .u64 a4,.int .u64 a5,.int .u64 a6,.int .u64 a7] 42 (0,0)))
 generalize w.alloc _=W1 at *
 clear hcell k2 k3
 go_wp2
 go_loopg[5,6] (r+1) (fun n v5 v6 wr=>∃ j:Nat,j<=r/\v5=.int .u64 ((v/2 ^ j:Nat):Int)/\v6=.int .i64 j/\n+j=r+1/\wr=W1)
 case atStart=>exact⟨0,Nat.zero_le _,by simp,rfl,rfl,rfl⟩
 case round =>
  obtain⟨j,hj,rfl,rfl,hn,rfl⟩:=hrel
  have HN:=kH hn
  clear hn hq
  have hjk:(j:Int)<=(r:Int):=by omega
  have hyl:v/2 ^ j<=v:=Nat.div_le_self _ _
  by_cases hlt:j<r
  ·have hlt':(j:Int)<(r:Int):=by omega
   have hs:v/2 ^ (j+1)=v/2 ^ j/2:=by rw[Nat.pow_succ,Nat.div_div_eq_div_mul]
   have HS:=kH hs
   clear hs
   obtain⟨y,hy⟩:∃ y,v/2 ^ j=y:=⟨_,rfl⟩
   rw[hy]at HS hyl ⊢
   clear hy
   have hq:((y:Int)/2)=((y/2:Nat):Int):=by omega
   have hyy:(y:Int)<18446744073709551616:=by omega
   generalize y/2=z at *
   go_wp2
   go_roundg (r-j)
   case measure=>have:=HN.out;omega
   case rel=>exact⟨j+1,by omega,by rw[HS.out],by go_num,by have:=HN.out;omega,rfl⟩
  ·obtain rfl:j=r:=by omega
   obtain⟨y,hy⟩:∃ y,v/2 ^ j=y:=⟨_,rfl⟩
   rw[hy]at hyl ⊢
   have HY:=kH hy
   clear hy
   have hm:((y:Int)%2)=((y%2:Nat):Int):=by omega
   have hyy:(y:Int)<18446744073709551616:=by omega
   rcases Nat.mod_two_eq_zero_or_one y with h2|h2
   ·have HZ:Hid (decide (v/2 ^ j%2=1)=false):=by show _=_;rw[HY.out,h2];rfl
    rw[h2]at hm
    go_wp2
    go_ret
    exact⟨by rw[HZ.out];rfl,hbel.out⟩
   ·have HZ:Hid (decide (v/2 ^ j%2=1)=true):=by show _=_;rw[HY.out,h2];rfl
    rw[h2]at hm
    go_wp2
    go_ret
    exact⟨by rw[HZ.out];rfl,hbel.out⟩
theorem or_pow{n r:Nat}(hn:n<18446744073709551616)(hr:r<64)(h:n.testBit r=false):n ||| 2 ^ r=n+2 ^ r/\n+2 ^ r<18446744073709551616:=by
 have hp:2 ^ r<18446744073709551616:=ig r hr
 have key:BitVec.ofNat 64 n &&& BitVec.ofNat 64 (2 ^ r)=0#64:=by
  apply BitVec.eq_of_getLsbD_eq
  intro i hi
  rw[BitVec.getLsbD_and,BitVec.getLsbD_ofNat,BitVec.getLsbD_ofNat,Nat.testBit_two_pow]
  by_cases e:r=i
  ·subst e;simp[h]
  ·simp[e]
 have h2:=congrArg BitVec.toNat (BitVec.add_eq_or_of_and_eq_zero _ _ key)
 simp only[BitVec.toNat_add,BitVec.toNat_or,BitVec.toNat_ofNat]at h2
 have e1:n%2 ^ 64=n:=Nat.mod_eq_of_lt hn
 have e2:(2 ^ r)%2 ^ 64=2 ^ r:=Nat.mod_eq_of_lt hp
 rw[e1,e2]at h2
 have h3:n ||| 2 ^ r<18446744073709551616:=Nat.or_lt_two_pow (n:=64) hn hp
 have h4:2 ^ r<=n ||| 2 ^ r:=Nat.right_le_or
 have h5:n<=n ||| 2 ^ r:=Nat.left_le_or
 rw[<-h2]at h3 h4 h5 ⊢
 generalize 2 ^ r=y at *
 omega
theorem pY{s:List Int}(hs:aU s){k:Nat}(hk:k<512)(h:hasB s k=true):cT s k=s:=by
 have hok:aU (cT s k):=by
  unfold cT
  exact⟨by rw[List.length_set];exact hs.1,fun x hx=>by
   rcases List.mem_or_eq_of_mem_set hx with hx|rfl
   ·exact hs.2 x hx
   ·obtain⟨n,hn,hl⟩:=rP (dx hs.2 (k/64))
    rw[hn,kN _ _ hl (ig _ (Nat.mod_lt _ (by decide)))]
    have:=Nat.or_lt_two_pow (n:=64) hl (ig (k%64) (Nat.mod_lt _ (by decide)))
    unfold uy
    omega⟩
 refine tq hok hs fun j _=>?_
 rw[jL hs hk]
 by_cases e:k=j
 ·subst e;simp[h]
 ·simp[e]
theorem it{w w':World}{b:Nat}{o:Obj}(h:Below w.heap.size w w')(hc:w.heap[b]?=some o):w'.heap[b]?=some o:=(h.block b (af hc)).trans hc
theorem lG{w w':World}{a b:Obj}(h:Below ((w.alloc a).alloc b).heap.size ((w.alloc a).alloc b) w'):Below w.heap.size w w':=dK (bA (ai w a) b) h
theorem fE:bH bQ=#[.int .u64 0,.int .u64 0,.int .u64 0,.int .u64 0,.int .u64 0,.int .u64 0,.int .u64 0,.int .u64 0]:=rfl
attribute [local go_sem ↓] jJ iL
attribute [local go_sem] iN gI
theorem jE(s:List Int)(k:Nat)(hs:aU s)(hk:k<512)(w:World):Calls Tryz.prog 24 #[dR s,.int .i64 (k:Nat)] w (dd (dR (cT s k)) w):=by
 have HB:=kH (fun w=>eZ s k hs hk w)
 have HA:=kH (fun h=>pY hs hk h)
 have hcs:=dp hs.1
 unfold dR at *
 generalize hS:bH s=S at *
 cases hb:hasB s k with
 | true =>
  rw[hb]at HB
  rw[HA.out hb,hS]
  clear HA hb hS
  have i2:ck ((w.alloc (.cells S 42 (0,0))).alloc (.cells (bH bQ) 42 (0,0))) w.heap.size S:=⟨bS (ar rfl),hcs.len⟩
  rw[fE]at i2
  go_enter Tryz.func24,Tryz.ntmps24
  go_wp2_with fail
  refine(HB.out _).mono ?_
  rintro e w1 ⟨rfl,hb1⟩
  have j2:ck w1 w.heap.size S:=⟨it hb1 i2.at_,hcs.len⟩
  have j4:ck w1 (w.heap.size+1) #[.int .u64 0,.int .u64 0,.int .u64 0,.int .u64 0,.int .u64 0,.int .u64 0,.int .u64 0,.int .u64 0]:=⟨it hb1 (ar (by simp)),rfl⟩
  have hbel:=kH (below_setRow (lG hb1) (Nat.le_succ _) S)
  clear i2 hb1
  go_wp2
  exact bodyPost_ret (results_cell_row rfl _ _ _ _ _ _ _ rfl (setRow_heap _ _ _ _ _ _ j4.at_) Tryz.underlying42 rfl (by rw[fN,hcs.len])) rfl ⟨rfl,hbel.out⟩
 | false =>
  rw[hb]at HB
  obtain⟨q,r,hkk,hr⟩:∃ q r,k=64*q+r/\r<64:=⟨k/64,k%64,by omega,by omega⟩
  have e1:k/64=q:=by omega
  have e2:k%64=r:=by omega
  obtain⟨v,hv,hvl⟩:=rP (dx hs.2 q)
  have hnth:=mI hs (q:=q) (by omega)
  rw[hv,hS]at hnth
  have hor:v ||| 2 ^ r=v+2 ^ r/\v+2 ^ r<18446744073709551616:=or_pow hvl hr (by
   unfold hasB at hb
   rw[e1,e2,hv,Int.toNat_natCast]at hb
   exact hb)
  have HR:Hid (bH (cT s k)=S.setIfInBounds q (.int .u64 ((v+2 ^ r:Nat):Int))):=by
   show _=_
   rw[<-hS]
   unfold cT bH
   rw[e1,e2,hv,kN _ _ hvl (ig _ hr),hor.1]
   simp
  have HL:Hid (fR (S.setIfInBounds q (.int .u64 ((v+2 ^ r:Nat):Int)))):=by
   rw[<-HR.out]
   refine dp ?_
   unfold cT
   rw[List.length_set]
   exact hs.1
  rw[HR.out]
  have k3:(((k:Int))/64)=(q:Int):=by omega
  have k2:(((k:Int))%64)=(r:Int):=by omega
  have k4:((q:Int))<8:=by omega
  have hrI:(r:Int)<64:=by omega
  have hS8:=hcs.len
  have hvl2:v+2 ^ r<18446744073709551616:=hor.2
  clear HA hb hS HR hkk e1 e2 hv hor hs
  have i2:ck ((w.alloc (.cells S 42 (0,0))).alloc (.cells (bH bQ) 42 (0,0))) w.heap.size S:=⟨bS (ar rfl),hcs.len⟩
  rw[fE]at i2
  go_enter Tryz.func24,Tryz.ntmps24
  go_wp2_with fail
  refine(HB.out _).mono ?_
  rintro e w1 ⟨rfl,hb1⟩
  have j2:ck w1 w.heap.size S:=⟨it hb1 i2.at_,hcs.len⟩
  have j4:ck w1 (w.heap.size+1) #[.int .u64 0,.int .u64 0,.int .u64 0,.int .u64 0,.int .u64 0,.int .u64 0,.int .u64 0,.int .u64 0]:=⟨it hb1 (ar (by simp)),rfl⟩
  have hbel:=kH (lG hb1)
  clear i2 hb1 HB
  go_wp2
  go_loopg[6,7] (r+1) (fun n v6 v7 wr=>∃ j:Nat,j<=r/\v6=.int .u64 ((2 ^ j:Nat):Int)/\v7=.int .i64 j/\n+j=r+1/\wr=w1)
  case atStart=>exact⟨0,Nat.zero_le _,by simp,rfl,rfl,rfl⟩
  case round =>
   obtain⟨j,hj,rfl,rfl,hn,rfl⟩:=hrel
   have HN:=kH hn
   clear hn
   have hjk:(j:Int)<=(r:Int):=by omega
   by_cases hlt:j<r
   ·have hlt':(j:Int)<(r:Int):=by omega
    have hs:2 ^ (j+1)=2 ^ j+2 ^ j:=by rw[Nat.pow_succ];omega
    have hp:=ig (j+1) (by omega)
    have HS:=kH hs
    have hpp:=ig j (by omega)
    rw[hs]at hp
    clear hs
    obtain⟨y,hy⟩:∃ y,2 ^ j=y:=⟨_,rfl⟩
    rw[hy]at HS hp hpp ⊢
    clear hy
    have hwr:IntKind.u64.wrap ((y:Int)+(y:Int))=((y+y:Nat):Int):=by rw[IntKind.wrap_u64];omega
    generalize y+y=z at *
    clear hvl2 hp
    go_wp2
    go_roundg (r-j)
    case measure=>have:=HN.out;omega
    case rel=>exact⟨j+1,by omega,by rw[HS.out],by go_num,by have:=HN.out;omega,rfl⟩
   ·obtain rfl:j=r:=by omega
    have h1:=j2.at_
    have hc:=cell_of_row wr w.heap.size q _ _ _ h1
    rw[hnth]at hc
    have hf:=frozen_of_row wr w.heap.size q _ _ h1
    have hset:=setCell_eq_setRow wr w.heap.size q _ _ _ (.int .u64 ((v+2 ^ j:Nat):Int)) h1
    have k2':ck (wr.setCell ⟨w.heap.size,q,none⟩ (.int .u64 ((v+2 ^ j:Nat):Int))) w.heap.size (S.setIfInBounds q (.int .u64 ((v+2 ^ j:Nat):Int))):=by
     rw[hset]
     exact⟨setRow_heap _ _ _ _ _ _ h1,HL.out.len⟩
    have k4':ck (wr.setCell ⟨w.heap.size,q,none⟩ (.int .u64 ((v+2 ^ j:Nat):Int))) (w.heap.size+1) #[.int .u64 0,.int .u64 0,.int .u64 0,.int .u64 0,.int .u64 0,.int .u64 0,.int .u64 0,.int .u64 0]:=by
     rw[hset]
     exact⟨by rw[setRow_other _ _ _ _ (by omega)];exact j4.at_,rfl⟩
    have hcs2:=HL.out
    have hb2:Hid (Below w.heap.size w ((wr.setCell ⟨w.heap.size,q,none⟩ (.int .u64 ((v+2 ^ j:Nat):Int))).setRow (w.heap.size+1) (S.setIfInBounds q (.int .u64 ((v+2 ^ j:Nat):Int))))):=by
     rw[hset]
     exact below_setRow (below_setRow hbel.out (Nat.le_refl _) _) (Nat.le_succ _) _
    have hwr:=(fun(y:Nat) (hy:v+y<18446744073709551616)=>show IntKind.u64.wrap ((v:Int)+(y:Int))=((v+y:Nat):Int) by rw[IntKind.wrap_u64];omega) (2 ^ j) hvl2
    clear hset h1 hnth HL
    generalize v+2 ^ j=z at *
    generalize 2 ^ j=y at *
    generalize S.setIfInBounds q (.int .u64 (z:Int))=S2 at *
    go_wp2
    exact bodyPost_ret (results_cell_row rfl _ _ _ _ _ _ _ rfl (setRow_heap _ _ _ _ _ _ k4'.at_) Tryz.underlying42 rfl (by rw[fN,hcs2.len])) rfl ⟨rfl,hb2.out⟩
theorem iW(s:List Int)(c:Int)(hs:aU s)(w:World):Calls Tryz.prog 9 #[dR s,.int .i64 c] w (dd (dR (be s c)) w):=by
 have HP:=kH (fun w=>jE s (ek c) hs (vT c) w)
 have HH:=kH (fun w=>oo c w)
 have hcs:=dp hs.1
 have hcs2:fR (bH (be s c)):=dp (cF hs c).1
 unfold be at *
 unfold dR at *
 generalize ek c=k at *
 generalize bH s=S at *
 generalize bH (cT s k)=S2 at *
 clear hs
 have i2:ck ((w.alloc (.cells S 42 (0,0))).alloc (.cells (bH bQ) 42 (0,0))) w.heap.size S:=⟨bS (ar rfl),hcs.len⟩
 rw[fE]at i2
 go_enter Tryz.func9,Tryz.ntmps9
 go_wp2_with fail
 refine(HH.out _).mono ?_
 rintro e w1 ⟨rfl,rfl⟩
 go_wp2_with fail
 refine(HP.out _).mono ?_
 rintro e w1 ⟨rfl,hb1⟩
 have j4:ck w1 (w.heap.size+1) #[.int .u64 0,.int .u64 0,.int .u64 0,.int .u64 0,.int .u64 0,.int .u64 0,.int .u64 0,.int .u64 0]:=⟨it hb1 (ar (by simp)),rfl⟩
 have hbel:=kH (below_setRow (lG hb1) (Nat.le_succ _) S2)
 clear i2 hb1 HP HH
 go_wp2
 exact bodyPost_ret (results_cell_row rfl _ _ _ _ _ _ _ rfl (setRow_heap _ _ _ _ _ _ j4.at_) Tryz.underlying42 rfl (by rw[fN,hcs2.len])) rfl ⟨rfl,hbel.out⟩
end
end Go.Proofs.YtgfogfciobmmpaaGreatDoor
