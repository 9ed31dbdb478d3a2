/- A part of the proof of a law of carouseltop: QueMachN16 QueNew16 Row Find Conc PlcPAhead PlcPFrame Open AppA May. -/
import Derived.Test.YtgfogfciobmmpaaGreatDoorBAb
import Derived.Test.YtgfogfciobmmpaaGreatDoorBAg
import Derived.Test.YtgfogfciobmmpaaGreatDoorBAi
import Derived.Deep.LoopGhost
import Derived.WalkMore
import Derived.Lib.AppendZeros
import Derived.Deep.Upon
import Derived.ProofKit
import Derived.SizedLaws
import Derived.Deep.Fields
import Derived.Deep.Slices
import Derived.OpenShut
import Derived.Deep.AppendLies
set_option linter.unusedSimpArgs false
set_option linter.unusedVariables false
set_option maxRecDepth 100000
set_option maxHeartbeats 8000000
namespace Go.Proofs.YtgfogfciobmmpaaGreatDoor
open Go.RowKit
namespace Que
open Go.RowKit
structure MS where
 q:QS
 ph:Nat
 x:ax
def mO(n:Nat):Nat :=
 if n=0 then 151 else if n=1 then 182 else if n=2 then 223 else if n=3 then 236
 else if n=4 then 245 else if n=5 then 237 else if n=6 then 246 else 250
def Rep(w:World)(p:Nat)(m:MS)(F:List Nat):Prop :=
 m.q.ok/\(m.ph=5->1<=m.q.most) /\
 (m.ph<8/\F=[p]/\fg w p m.q (BU (mO m.ph)) \/
  8<=m.ph/\∃ c,c≠p/\F=[p,c]/\fg w p m.q (.func (.func 244) #[] #[.pointer (some ⟨c,0,none⟩)]) /\
  w.heap[c]?=some (.cells #[.int .i64 m.x.kind,.int .i64 m.x.cell,.int .i64 m.x.value,.int .i64 m.x.code] 109 (0,0)))
def lenM(m:MS)(v:Int):ax×MS :=
 if m.q.call=5 then(⟨6,0,v,0⟩,⟨{m.q with l:=v},8,⟨6,0,v,0⟩⟩)
 else if m.q.call=3 then
  (if m.q.most<=u64 v then(⟨6,0,0,2⟩,⟨{m.q with l:=v},8,⟨6,0,0,2⟩⟩)
   else(bN (m.q.base+(2+behindI m.q.f (u64 v) m.q.most)) m.q.v,⟨{m.q with l:=v},3,m.x⟩))
 else if v=0\/m.q.most=0 then(⟨6,0,0,1⟩,⟨{m.q with l:=v},8,⟨6,0,0,1⟩⟩)
 else(bV (m.q.base+(2+behindI m.q.f 0 m.q.most)),⟨{m.q with l:=v},5,m.x⟩)
def goM(m:MS)(v:Int):ax×MS :=
 if m.ph=0 then(bV m.q.base,{m with ph:=1})
 else if m.ph=1 then(bV (m.q.base+1),{m with q:={m.q with f:=v},ph:=2})
 else if m.ph=2 then lenM m v
 else if m.ph=3 then(bN (m.q.base+1) (wrap64 (m.q.l+1)),{m with ph:=4})
 else if m.ph=4 then(⟨6,0,0,0⟩,{m with ph:=8,x:=⟨6,0,0,0⟩ })
 else if m.ph=5 then(bN m.q.base (behindI m.q.f 1 m.q.most),{m with q:={m.q with v:=v},ph:=6})
 else if m.ph=6 then(bN (m.q.base+1) (wrap64 (m.q.l-1)),{m with ph:=7})
 else if m.ph=7 then(⟨6,0,m.q.v,0⟩,{m with ph:=8,x:=⟨6,0,m.q.v,0⟩ })
 else(m.x,m)
def outM(m:MS)(v:Int):ax:=(goM m v).1
def stepM(m:MS)(v:Int):MS:=(goM m v).2
def dl(p:Nat)(m:MS)(F:List Nat)(v:Int)(w:World)(e:Ending)(w':World):Prop :=
 e=.returned (outM m v).val/\w.grownBy w' (some p)/\∃ F',Rep w' p (stepM m v) F'/\∀ k∈F',k∈F\/w.heap.size<=k
theorem ef{p:Nat}{m m':MS}{F:List Nat}{v:Int}{x:ax}{w w':World}{e:Ending}{n:Nat}(h:aA p m'.q (BU n) x w e w')(hg:goM m v=(x,m'))(hok:m'.q.ok)
  (h5:m'.ph=5->1<=m'.q.most) (hph:m'.ph<8) (hn:n=mO m'.ph) (hF:p∈F):dl p m F v w e w':=by
 obtain⟨h1,h2,h3⟩:=h
 subst hn
 refine⟨by rw[outM,hg];exact h1,h2,[p],?_,fun k hk=>.inl (by simp at hk;rw[hk];exact hF)⟩
 rw[stepM,hg]
 exact⟨hok,h5,.inl ⟨hph,rfl,h3⟩⟩
theorem fc{p:Nat}{m m':MS}{F:List Nat}{v:Int}{w w':World}{e:Ending}(hlt:p<w.heap.size)(h:cg p m'.q m'.x w e w')(hg:goM m v=(m'.x,m'))(hok:m'.q.ok)
  (hph:m'.ph=8) (hF:p∈F):dl p m F v w e w':=by
 obtain⟨h1,h2,c,h3,h4,h5⟩:=h
 refine⟨by rw[outM,hg];exact h1,h2,[p,c],?_,fun k hk=>?_⟩
 ·rw[stepM,hg]
  show Rep w' p m' _
  exact⟨hok,fun e=>by omega,.inr ⟨by omega,c,by omega,rfl,h4,h5⟩⟩
 ·simp at hk
  rcases hk with rfl|rfl
  ·exact .inl hF
  ·exact .inr h3
theorem vf(w:World)(p:Nat)(m:MS)(F:List Nat)(v:Int)(h:Rep w p m F)(hph:m.ph<8) :
  Calls Tryz.prog (mO m.ph) #[.pointer (some ⟨p,0,none⟩),.int .i64 v] w (dl p m F v w):=by
 obtain⟨hok,h5,h⟩:=h
 obtain⟨_,rfl,hq⟩:=h.resolve_right (fun e=>by omega)
 clear h
 have hF:p∈[p]:=by simp
 have hlt:p<w.heap.size:=(Array.getElem?_eq_some_iff.1 hq).1
 obtain⟨q,ph,x⟩:=m
 dsimp only at hok h5 hph hq
 rcases(show ph=0\/ph=1\/ph=2\/ph=3\/ph=4\/ph=5\/ph=6\/ph=7 from by omega)with rfl|rfl|rfl|rfl|rfl|rfl|rfl|rfl
 ·exact(wH w p q _ v hq hok).mono fun e w' hp=>ef (m':=⟨q,1,x⟩) hp rfl hok (by simp) (by simp) rfl hF
 ·exact(px w p q _ v hq hok).mono fun e w' hp=>ef (m':=⟨{q with f:=v},2,x⟩) hp rfl hok (by simp) (by simp) rfl hF
 ·by_cases hc5:q.call=5
  ·exact(qd w p q _ v hq hok hc5).mono fun e w' hp=>fc (m':=⟨{q with l:=v},8,⟨6,0,v,0⟩⟩) hlt hp (by show lenM _ _=_;simp[lenM,hc5]) hok rfl hF
  ·by_cases hc3:q.call=3
   ·by_cases hf:q.most<=u64 v
    ·exact(pw w p q _ v hq hok hc3 hf).mono fun e w' hp=>fc (m':=⟨{q with l:=v},8,⟨6,0,0,2⟩⟩) hlt hp (by show lenM _ _=_;simp[lenM,hc3,hf]) hok rfl hF
    ·have h1:1<=q.most:=by have:=u64_bounds v;omega
     exact(qc w p q _ v hq hok hc3 (by omega) h1).mono fun e w' hp=>ef (m':=⟨{q with l:=v},3,x⟩) hp (by show lenM _ _=_;simp[lenM,hc3,hf]) hok (by simp) (by simp) rfl hF
   ·by_cases hz:v=0
    ·exact(pr w p q _ v hq hok hc5 hc3 hz).mono fun e w' hp=>fc (m':=⟨{q with l:=v},8,⟨6,0,0,1⟩⟩) hlt hp (by show lenM _ _=_;simp[lenM,hc5,hc3,hz]) hok rfl hF
    ·by_cases hn:q.most=0
     ·exact(pu w p q _ v hq hok hc5 hc3 hz hn).mono fun e w' hp=>fc (m':=⟨{q with l:=v},8,⟨6,0,0,1⟩⟩) hlt hp (by show lenM _ _=_;simp[lenM,hc5,hc3,hn]) hok rfl hF
     ·have h1:1<=q.most:=by have:=hok.2.2.1;omega
      exact(qe w p q _ v hq hok hc5 hc3 hz h1).mono fun e w' hp=>ef (m':=⟨{q with l:=v},5,x⟩) hp (by show lenM _ _=_;simp[lenM,hc5,hc3,hz,hn]) hok (fun _=>h1) (by simp) rfl hF
 ·exact(yd w p q _ v hq hok).mono fun e w' hp=>ef (m':=⟨q,4,x⟩) hp rfl hok (by simp) (by simp) rfl hF
 ·exact(vG w p q _ v hq).mono fun e w' hp=>fc (m':=⟨q,8,⟨6,0,0,0⟩⟩) hlt hp rfl hok rfl hF
 ·exact(A5 w p q _ v hq hok (h5 rfl)).mono fun e w' hp=>ef (m':=⟨{q with v:=v},6,x⟩) hp rfl hok (by simp) (by simp) rfl hF
 ·exact(vq w p q _ v hq hok).mono fun e w' hp=>ef (m':=⟨q,7,x⟩) hp rfl hok (by simp) (by simp) rfl hF
 ·exact(tK w p q _ v hq).mono fun e w' hp=>fc (m':=⟨q,8,⟨6,0,q.v,0⟩⟩) hlt hp rfl hok rfl hF
theorem rep_keep{w w':World}{p:Nat}{st:MS}{F:List Nat}(h:Rep w p st F)(hk:∀ q∈F,w'.heap[q]?=w.heap[q]?):Rep w' p st F:=by
 obtain⟨h1,h2,⟨h3,rfl,h4⟩|⟨h3,c,h4,rfl,h5,h6⟩⟩:=h
 ·exact⟨h1,h2,.inl ⟨h3,rfl,(hk p (by simp)).trans h4⟩⟩
 ·exact⟨h1,h2,.inr ⟨h3,c,h4,rfl,(hk p (by simp)).trans h5,(hk c (by simp)).trans h6⟩⟩
theorem rep_mem{w:World}{p:Nat}{st:MS}{F:List Nat}(h:Rep w p st F):p∈F/\∀ q∈F,q<w.heap.size:=by
 obtain⟨h1,h2,⟨h3,rfl,h4⟩|⟨h3,c,h4,rfl,h5,h6⟩⟩:=h
 ·exact⟨by simp,by simpa using (Array.getElem?_eq_some_iff.1 h4).1⟩
 ·refine⟨by simp,fun q hq=>?_⟩
  simp at hq
  rcases hq with rfl|rfl
  ·exact(Array.getElem?_eq_some_iff.1 h5).1
  ·exact(Array.getElem?_eq_some_iff.1 h6).1
theorem qG{w w1:World}{p g:Nat}{m:MS}{F:List Nat}{v:Int}{o:Obj}{a b c d:Value}(hg:g=w.heap.size){v1:Value}(h:dl p m F v (w.alloc o) (.returned v1) w1){e:Ending}(he:e=.returned (outM m v).val)(hF:∀ q∈F,q<w.heap.size) :
  dl p m F v w e ((((w1.setCell ⟨g,0,none⟩ a).setCell ⟨g,1,none⟩ b).setCell ⟨g,2,none⟩ c).setCell ⟨g,3,none⟩ d):=by
 obtain⟨-,h2,F',h3,h4⟩:=h
 have hs:w.heap.size+1<=w1.heap.size:=by have:=h2.size;simpa using this
 refine⟨he,⟨h2.os,h2.tape,h2.output,by simp;omega,fun k hk hne=>?_⟩,F',rep_keep h3 fun q hq=>?_,fun k hk=>?_⟩
 ·have e1:k≠g:=by omega
  rw[Below.heap_setCell _ _ _ _ (by simpa using e1),Below.heap_setCell _ _ _ _ (by simpa using e1),Below.heap_setCell _ _ _ _ (by simpa using e1),Below.heap_setCell _ _ _ _ (by simpa using e1),h2.block k (by simp;omega) hne]
  exact Below.heap_alloc _ _ _ hk
 ·have e1:q≠g:=by
   rcases h4 q hq with h|h
   ·have:=hF q h;omega
   ·simp at h;omega
  rw[Below.heap_setCell _ _ _ _ (by simpa using e1),Below.heap_setCell _ _ _ _ (by simpa using e1),Below.heap_setCell _ _ _ _ (by simpa using e1),Below.heap_setCell _ _ _ _ (by simpa using e1)]
 ·rcases h4 k hk with h|h
  ·exact .inl h
  ·right;simp at h;omega
theorem Next_calls(w:World)(p:Nat)(m:MS)(F:List Nat)(v:Int)(hr:Rep w p m F) :
  Calls Tryz.prog 286 #[.pointer (some ⟨p,0,none⟩),.int .i64 v] w (dl p m F v w):=by
 have HM:=kH (rep_mem hr)
 have hlt:p<w.heap.size:=HM.out.2 p HM.out.1
 have HR:Hid (Rep (w.alloc (.cells #[.int .i64 0,.int .i64 0,.int .i64 0,.int .i64 0] 109)) p m F):=rep_keep hr fun q hq=>Below.heap_alloc _ _ _ (HM.out.2 q hq)
 have HR0:=kH hr
 obtain⟨hok,h5,⟨hph,hF,hq⟩|⟨h8,c,hne,hF,hq,hc⟩⟩:=hr
 ·obtain⟨⟨c0,c1,c2,c3,c4,c5,c6⟩,⟨f3,f4,f5,f6⟩,-⟩:=iD hq
  clear hq hF h5
  have hcase:∃ fn,mO m.ph=fn/\(fn=151\/fn=182\/fn=223\/fn=236\/fn=245\/fn=237\/fn=246\/fn=250):=by
   refine⟨_,rfl,?_⟩
   generalize m.ph=ph at *
   rcases(show ph=0\/ph=1\/ph=2\/ph=3\/ph=4\/ph=5\/ph=6\/ph=7 from by omega)with rfl|rfl|rfl|rfl|rfl|rfl|rfl|rfl<;>simp[mO]
  obtain⟨fn,hfn,hcase⟩:=hcase
  have HPC:∀ w,Rep w p m F->Calls Tryz.prog fn #[.pointer (some ⟨p,0,none⟩),.int .i64 v] w (dl p m F v w):=fun w h=>by rw[<-hfn];exact vf w p m F v h hph
  have HPC':=kH HPC
  unfold BU at c4
  rw[hfn]at c4
  clear hfn HPC hph
  rcases hcase with rfl|rfl|rfl|rfl|rfl|rfl|rfl|rfl
  all_goals
   go_enter Tryz.func286,Tryz.ntmps286
   go_wp2_with fail
   refine(HPC'.out _ HR.out).mono ?_
   rintro e w1 ⟨rfl,post⟩
   have hn:dl p m F v (w.alloc (.cells #[.int .i64 0,.int .i64 0,.int .i64 0,.int .i64 0] 109)) (.returned (outM m v).val) w1:=⟨rfl,post⟩
   have HN:Hid (dl p m F v (w.alloc (.cells #[.int .i64 0,.int .i64 0,.int .i64 0,.int .i64 0] 109)) (.returned (outM m v).val) w1):=hn
   have hg1:=aq post.1 (aj (n:=w.heap.size) (by simp)) (by omega)
   obtain⟨⟨d0,d1,d2,d3⟩,⟨g0,g1,g2,g3⟩,hz⟩:=bB hg1
   clear post hn
   simp only[ax.val]
   go_wp2
   exact bodyPost_ret (results_cell_row rfl _ _ _ _ _ _ _ rfl (ab (ab (ab (ab hg1)))) Tryz.underlying109 rfl ap) rfl (qG rfl HN.out rfl HM.out.2)
 ·obtain⟨⟨c0,c1,c2,c3,c4,c5,c6⟩,⟨f3,f4,f5,f6⟩,-⟩:=iD hq
  have HC:=kH hc
  have hgo:goM m v=(m.x,m):=by
   unfold goM
   rw[if_neg (by omega),if_neg (by omega),if_neg (by omega),if_neg (by omega),if_neg (by omega),if_neg (by omega),if_neg (by omega),if_neg (by omega)]
  have HG:=kH hgo
  clear hq hF h5 hc hgo hok
  go_enter Tryz.func286,Tryz.ntmps286
  go_wp2_with fail
  refine(wi _ c m.x _ _ (kO HC.out)).mono ?_
  rintro e w1 ⟨rfl,hb1⟩
  have hg1:=kM hb1 (aj (n:=w.heap.size) (by simp))
  obtain⟨⟨d0,d1,d2,d3⟩,⟨g0,g1,g2,g3⟩,hz⟩:=bB hg1
  have hn:dl p m F v (w.alloc (.cells #[.int .i64 0,.int .i64 0,.int .i64 0,.int .i64 0] 109)) (.returned (outM m v).val) w1 :=
   ⟨rfl,⟨hb1.os,hb1.tape,hb1.output,hb1.size,fun k hk _=>hb1.block k hk⟩,F,by rw[stepM,HG.out];exact rep_keep HR.out fun q hq=>hb1.block q (by have:=HM.out.2 q hq;simp;omega),fun k hk=>.inl hk⟩
  have HN:Hid (dl p m F v (w.alloc (.cells #[.int .i64 0,.int .i64 0,.int .i64 0,.int .i64 0] 109)) (.returned (outM m v).val) w1):=hn
  clear hn
  simp only[ax.val]
  go_wp2
  exact bodyPost_ret (results_cell_row rfl _ _ _ _ _ _ _ rfl (ab (ab (ab (ab hg1)))) Tryz.underlying109 rfl ap) rfl (qG rfl HN.out (by rw[outM,HG.out];rfl) HM.out.2)
end Que
namespace Que
open Go.RowKit
def arityI(c:Int):Int:=if c=3 then 1 else if c=2\/c=5 then 0 else -1
theorem cS(c:Int)(w:World):Calls Tryz.prog 150 #[.int .i64 c] w (dm (.int .i64 (arityI c)) w):=by
 rcases(show c=3\/c=2\/c=5\/(c≠3/\c≠2/\c≠5)from by omega)with rfl|rfl|rfl|⟨h1,h2,h3⟩
 ·go_enter Tryz.func150,Tryz.ntmps150
  go_wp2
  go_ret
  exact⟨rfl,rfl⟩
 ·go_enter Tryz.func150,Tryz.ntmps150
  go_wp2
  go_ret
  exact⟨rfl,rfl⟩
 ·go_enter Tryz.func150,Tryz.ntmps150
  go_wp2
  go_ret
  exact⟨rfl,rfl⟩
 ·have e:arityI c = -1:=by simp[arityI,h1,h2,h3]
  rw[e]
  have h1':(c == 3)=false:=by simpa using h1
  have h2':(c == 2)=false:=by simpa using h2
  have h3':(c == 5)=false:=by simpa using h3
  clear h1 h2 h3 e
  go_enter Tryz.func150,Tryz.ntmps150
  go_wp2
  go_ret
  exact⟨rfl,rfl⟩
def initM(base most call:Int)(xs:List Int):MS:=⟨⟨base,most,call,xs.getD 0 0,0,0⟩,0,w0⟩
def jW(m:MS)(w:World)(e:Ending)(w':World):Prop :=
 e=.returned (.tuple #[.pointer (some ⟨w.heap.size,0,none⟩),.int .i64 0])/\Below w.heap.size w w'/\∃ F,Rep w' w.heap.size m F/\∀ k∈F,w.heap.size<=k
theorem list_one{xs:List Int}(h:xs.length=1):∃ i,xs=[i]:=by
 match xs,h with
 | [i],_=>exact⟨i,rfl⟩
theorem kQ{call:Int}{n:Nat}(h:arityI call=(n:Int)):call=3/\n=1\/call=2/\n=0\/call=5/\n=0:=by
 unfold arityI at h
 split at h
 ·left;omega
 ·split at h
  ·rename_i h1
   rcases h1 with h1|h1
   ·right;left;omega
   ·right;right;omega
  ·omega
theorem New_yes(w:World)(B:Nat)(base most call:Int)(a:Value)(xs:List Int)(ha:kf w B a xs)(hB:B<=w.heap.size)(hyes:qf base most (arityI call) xs.length=true) :
  Calls Tryz.prog 103 #[.int .i64 base,.int .i64 most,.int .i64 call,a] w (jW (initM base most call xs) w):=by
 obtain⟨hxl,hxr,a,ca,rfl,hca,ha⟩:=ha
 obtain⟨⟨hm0,hm16⟩,hb0,hb1,har⟩:=of_decide_eq_true hyes
 clear hyes
 have hok:Hid (QS.ok ⟨base,most,call,xs.getD 0 0,0,0⟩):=⟨hb0,hb1,hm0,hm16⟩
 rcases kQ har with⟨rfl,hl⟩|⟨rfl,hl⟩|⟨rfl,hl⟩
 ·obtain⟨i,rfl⟩:=list_one hl
  rcases ha with h|⟨b,off,rfl,hBb,hcell⟩
  ·cases h
  have c0:=hcell 0 (by simp)
  simp at c0
  have hbs:b<w.heap.size:=by omega
  have hbne:b≠w.heap.size:=by omega
  clear hcell hl har hxr
  go_enter Tryz.func103,Tryz.ntmps103
  go_wp2_with(go_at_call 150;refine(cS _ _).mono ?_;rintro e w' ⟨rfl,rfl⟩;simp only[show arityI 3=1 from rfl])
  go_ret2
  exact⟨rfl,ai _ _,_,⟨hok.out,(fun e=>by cases e),.inl ⟨(show(0:Nat)<8 by decide),rfl,Go.heap_alloc_new _ _⟩⟩,by simp⟩
 all_goals
  obtain rfl:xs=[]:=List.eq_nil_of_length_eq_zero hl
  clear ha har hxr hl
  go_enter Tryz.func103,Tryz.ntmps103
  go_wp2_with(go_at_call 150;refine(cS _ _).mono ?_;rintro e w' ⟨rfl,rfl⟩;simp only[show arityI 2=0 from rfl,show arityI 5=0 from rfl])
  go_ret2
  exact⟨rfl,ai _ _,_,⟨hok.out,(fun e=>by cases e),.inl ⟨(show(0:Nat)<8 by decide),rfl,Go.heap_alloc_new _ _⟩⟩,by simp⟩
end Que
section
theorem aD.read{w:World}{e:TypeId}{sz:Nat}{v:Value}{n:Nat}{xs:List Value}(h:aD w e sz v n xs)(hn:0<n) :
  ∃ g cap,v=.slice (some ⟨g,0,none⟩) n cap/\n<=cap/\cap<=maxLen/\g<w.heap.size/\bR v=[g]/\(∀ j u,xs[j]?=some u->w.cell? ⟨g,j,none⟩=some u)/\∀ j,w.frozen? ⟨g,j,none⟩=false:=by
 rcases h.2 with⟨_,h0⟩|⟨g,cap,cur,rfl,hb,hg,hnc,hcm,hcs,ht⟩
 ·omega
 ·refine⟨g,cap,rfl,hnc,hcm,af hg,rfl,fun j u hu=>?_,fun j=>frozen_of_row w g j _ _ hg⟩
  rw[cell_of_row w g j _ _ _ hg]
  rw[<-ht]at hu
  rw[List.getElem?_take]at hu
  split at hu
  ·simpa using hu
  ·simp at hu
theorem aD.nil0{w:World}{e:TypeId}{sz:Nat}{v:Value}{xs:List Value}(h:aD w e sz v 0 xs):xs=[]/\∃ a c,v=.slice a 0 c:=by
 refine⟨List.eq_nil_of_length_eq_zero (by simpa using h.1),?_⟩
 rcases h.2 with⟨rfl,_⟩|⟨g,cap,cur,rfl,_⟩
 ·exact⟨_,_,rfl⟩
 ·exact⟨_,_,rfl⟩
theorem aD.slice{w:World}{e:TypeId}{sz:Nat}{v:Value}{n:Nat}{xs:List Value}(h:aD w e sz v n xs):∃ a c,v=.slice a n c/\n<=c/\c<=maxLen:=by
 rcases h.2 with⟨rfl,rfl⟩|⟨g,cap,cur,rfl,_,_,h1,h2,_⟩
 ·exact⟨_,_,rfl,Nat.le_refl _,Nat.zero_le _⟩
 ·exact⟨_,_,rfl,h1,h2⟩
def cL(l:List (Int×Int)):List Value:=l.flatMap fun w=>[.int .i64 w.1,.int .i64 w.2]
theorem kX:∀ (l:List (Int×Int)) (i:Nat),i<l.length->(cL l)[2*i]?=some (.int .i64 (l.getD i (0,0)).1)/\(cL l)[2*i+1]?=some (.int .i64 (l.getD i (0,0)).2)
 | [],i,h=>by simp at h
 | y::l,0,_=>⟨rfl,rfl⟩
 | y::l,i+1,h=>by
  have ih:=kX l i (by simpa using h)
  have e:cL (y::l)=.int .i64 y.1::.int .i64 y.2::cL l:=rfl
  rw[e]
  constructor
  ·rw[show 2*(i+1)=2*i+1+1 by omega]
   simpa using ih.1
  ·rw[show 2*(i+1)+1=2*i+1+1+1 by omega]
   simpa using ih.2
theorem et(l:List (Int×Int)):(cL l).length=l.length*2:=by
 induction l with
 | nil=>rfl
 | cons y l ih =>
  have e:cL (y::l)=.int .i64 y.1::.int .i64 y.2::cL l:=rfl
  rw[e]
  simp[ih]
  omega
def gy(v:Value)(l:List (Int×Int)):aw:=aN 218 2 v l.length (cL l)
section
variable {w:World}{X:List Nat}{Cs:List aw}{W W':World}{e:TypeId}{sz:Nat}
theorem ah.nilRow(h:ah w X Cs W)(e:TypeId)(sz:Nat):ah w X (aN e sz (.slice none 0 0) 0 []::Cs) W :=
 h.more (C3:=[aN e sz (.slice none 0 0) 0 []]) ⟨aQ.refl _ _,fun c hc=>by rw[List.mem_singleton.1 hc];exact om _ _ _,by simp[cu,aN,bR],fun x hx=>by simp[cu,aN,bR]at hx⟩
theorem ah.append{v:Value}{n:Nat}{xs:List Value}{g n' cap:Nat}{ys:List Value}{H:Nat}(h:ah w X (aN e sz v n xs::Cs) W)(hg:W.grownBy W' v.ownBlock)(ho:W'.ownsRow 0 e sz (.slice (some ⟨g,0,none⟩) n' cap) n' ys)(ha:v.ownBlock=some g\/g=H)(hH:W.heap.size<=H) :
  ah w X (aN e sz (.slice (some ⟨g,0,none⟩) n' cap) n' ys::Cs) W':=by
 have hr:aD W e sz v n xs:=h.h0
 refine h.call1 (C3:=[aN e sz (.slice (some ⟨g,0,none⟩) n' cap) n' ys]) ⟨(aQ.refl _ _).grown hg (fun q hq=>.inl (fL hq)),fun c hc=>by rw[List.mem_singleton.1 hc];exact ho,by simp[cu,aN,bR],fun x hx=>?_⟩
 simp[cu,aN,bR]at hx
 subst hx
 rcases ha with ha|ha
 ·exact .inl (fL ha)
 ·exact .inr (by omega)
end
end
section
variable {w0:World}{X:List Nat}{Cs:List aw}{w:World}{t sb:Nat}{lv:Value}{most sh:Nat}{sl:List Int}{l:List (Int×Int)}
def iV(most:Nat)(sb N:Nat)(lv:Value)(sh:Nat):Obj:=.cells #[.int .i64 most,.slice (some ⟨sb,0,none⟩) N N,lv,.int .u64 sh] 250 (0,0)
def gD(sl:List Int):Obj:=.cells (dH sl) 3 (0,0)
def ei(t sb most:Nat)(lv:Value)(sh:Nat)(sl:List Int)(l:List (Int×Int))(Cs:List aw):List aw:=ag t (iV most sb sl.length lv sh)::ag sb (gD sl)::gy lv l::Cs
structure rV(most sh:Nat)(sl:List Int)(l:List (Int×Int)):Prop where
 ok:rm sl (l.map (·.1)) sh
 wide:sh=64-ft most
 lens:sl.length=2 ^ ft most
 mosts:1<=most/\most<=24
 few:l.length<=most
 cells:∀ y∈l,0<=y.1/\y.1<1024/\aI y.2
theorem rV.sizes{most sh:Nat}{sl:List Int}{l:List (Int×Int)}(h:rV most sh sl l):58<=sh/\sh<=63/\2<=sl.length/\sl.length<=64/\∀ c,gv sh c<sl.length:=by
 have hw:=nV most
 have h1:=h.wide
 have h2:=h.lens
 rw[h2,h1]
 generalize ft most=k at *
 refine⟨by omega,by omega,?_,?_,fun c=>?_⟩
 ·rcases(show k=1\/k=2\/k=3\/k=4\/k=5\/k=6 by omega)with rfl|rfl|rfl|rfl|rfl|rfl<;>decide
 ·rcases(show k=1\/k=2\/k=3\/k=4\/k=5\/k=6 by omega)with rfl|rfl|rfl|rfl|rfl|rfl<;>decide
 ·unfold gv
  generalize fZ c*11400714819323198485=y
  rcases(show k=1\/k=2\/k=3\/k=4\/k=5\/k=6 by omega)with rfl|rfl|rfl|rfl|rfl|rfl<;>simp only[Nat.reduceSub,Nat.reducePow,Int.reducePow]<;>omega
theorem CM{most sh:Nat}{sl:List Int}{l:List (Int×Int)}(h:rV most sh sl l)(k:Nat)(hk:k<=64):bits .and .i64 (k:Int) ((sl.length:Int)-1)=((k%sl.length:Nat):Int):=by
 have hw:=nV most
 have h2:=h.lens
 rw[h2]
 generalize ft most=n at *
 have:=bits_mask .i64 62 (by decide) nU n (by omega) (k:Int) (by omega) (by omega)
 rcases(show n=1\/n=2\/n=3\/n=4\/n=5\/n=6 by omega)with rfl|rfl|rfl|rfl|rfl|rfl
 all_goals
  simp only[Nat.reducePow,Int.reducePow]at this ⊢
  exact this.trans (by omega)
theorem p9{w:World}{g:Nat}{l:List (Int×Int)}{i:Nat}{c:Int}(hcell:∀ j u,(cL l)[j]?=some u->w.cell? ⟨g,j,none⟩=some u)(hi:(l.map (·.1))[i]?=some c):w.cell? ⟨g,i*2,none⟩=some (.int .i64 c)/\∃ v,l[i]?=some (c,v)/\w.cell? ⟨g,i*2+1,none⟩=some (.int .i64 v):=by
 rw[List.getElem?_map]at hi
 cases hl:l[i]? with
 | none=>rw[hl]at hi;simp at hi
 | some y =>
  rw[hl]at hi
  simp at hi
  subst hi
  have hil:=(List.getElem?_eq_some_iff.1 hl).1
  obtain⟨h0,h1⟩:=kX l i hil
  have hg:l.getD i (0,0)=y:=by rw[List.getD_eq_getElem?_getD,hl];rfl
  rw[hg]at h0 h1
  rw[Nat.mul_comm]at h0 h1
  exact⟨hcell _ _ h0,y.2,rfl,hcell _ _ h1⟩
theorem vY(hS:ah w0 X (ei t sb most lv sh sl l Cs) w)(hr:rV most sh sl l)(c:Int)(hc:0<=c/\c<=1024) :
  Calls Tryz.prog 170 #[ptr t,.int .i64 c] w (fun e w'=>∃ k b,e=.returned (.tuple #[.int .i64 (k:Nat),.bool b])/\wW sl (l.map (·.1)) sh c k b/\ah w0 X (ei t sb most lv sh sl l Cs) w'):=by
 obtain⟨z1,z2,z3,z4,z5⟩:=hr.sizes
 have hz:=z5 c
 have HR:=kH hr
 have HM:=kH (fun k (hk:k<=64)=>CM hr k hk)
 unfold ei at hS
 have HS:=kH hS
 have c1:=hS.cell 1
 have c3:=hS.cell 3
 simp only[iV,gA,gZ,gS]at c1 c3
 have hh:IntKind.u64.wrap (c*11400714819323198485)/2 ^ sh=(gv sh c:Int):=by
  unfold gv fZ
  rw[IntKind.wrap_u64]
  have hp:(0:Int)<2 ^ sh:=Int.pow_pos (by decide)
  have hn:0<=c%18446744073709551616*11400714819323198485%18446744073709551616/2 ^ sh:=Int.ediv_nonneg (Int.emod_nonneg _ (by decide)) (by omega)
  rw[Int.toNat_of_nonneg hn,show c%18446744073709551616=c by omega]
 generalize hN:sl.length=N at *
 generalize hhh:gv sh c=h0 at *
 have HH:=kH hhh
 have HN:=kH hN
 clear hS hr z5 hhh hN
 unfold ptr
 go_enter Tryz.func170,Tryz.ntmps170
 go_wp2_with fail
 go_step3
 go_wp2_with fail
 clear hh
 go_step3
 go_wp2_with fail
 go_loopg[6,22] N (fun nn v6 v22 wr=>∃ e q:Nat,e<=N/\v22=.int .i64 e/\q=fM N h0 e/\v6=.int .i64 q/\nn+e=N/\(∀ e',e'<e->sl.getD (fM N h0 e') 0≠-1/\∀ j:Nat,sl.getD (fM N h0 e') 0=j->(l.map (·.1))[j]?≠some c) /\
  ah w0 X (ag t (iV most sb N lv sh)::ag sb (gD sl)::gy lv l::Cs) wr)
 case atStart=>exact⟨0,h0,Nat.zero_le _,rfl,by unfold fM;rw[Nat.add_zero,Nat.mod_eq_of_lt hz],rfl,by omega,(fun e' h=>absurd h (Nat.not_lt_zero _)),HS.out⟩
 case round =>
  obtain⟨e,q,he,rfl,hq,rfl,hn,hno,S⟩:=hrel
  have HNN:=kH hn
  have HNO:=kH hno
  have HQ:=kH hq
  have HSR:=kH S
  have hqN:q<N:=by rw[hq];exact tE (by omega)
  have hen:e<N:=by
   rcases Nat.lt_or_ge e N with h|h
   ·exact h
   ·exfalso
    refine BY HR.out.ok h0 (fun e' he'=>?_)
    rw[HN.out]at he' ⊢
    exact(hno e' (by omega)).1
  have b1:=S.cell 1
  have bq:=S.cell1 q
  simp only[gA,gZ,gS]at b1
  rw[ej sl q (by rw[HN.out];exact hqN)]at bq
  have hqs:q<sl.length:=by rw[HN.out];exact hqN
  have hv:=HR.out.ok.vals q hqs
  have hmask:bits .and .i64 ((q:Int)+1) ((N:Int)-1)=((fM N h0 (e+1):Nat):Int):=by
   have h:=HM.out (q+1) (by omega)
   rw[<-AD,<-hq]
   exact h
  have HMK:=kH hmask
  have HQS:=kH hqs
  have hrow:aD wr _ _ _ _ _:=S.h2
  generalize hvv:sl.getD q 0=v at *
  have HVV:=kH hvv
  clear hn hno hq S hmask hqs hvv
  rcases hv with hv|⟨hv0,hv1⟩
  ·subst hv
   clear hrow
   go_wp2
   rw[Exit.noGoto_ret]
   go_ret2
   refine⟨q,false,rfl,?_,by have:=HSR.out;rw[<-HN.out]at this;exact this⟩
   have hno:=HNO.out
   have hq:=HQ.out
   rw[<-HN.out,<-HH.out]at hno hq
   rw[<-HN.out]at he hen
   refine .no HQS.out HVV.out (qC HR.out.ok (n:=e) he hno (by rw[<-hq];exact HVV.out)) ⟨e,hen,hq,fun e' h=>(hno e' h).1⟩
  ·obtain⟨j,rfl⟩:=Int.eq_ofNat_of_zero_le hv0
   have hjl:j<l.length:=by simpa using hv1
   obtain⟨g,cap,rfl,hcap,hcm,hgl,-,hcell,-⟩:=hrow.read (by omega)
   have b2:=HSR.out.cell 2
   simp only[gA,gZ,gS]at b2
   obtain⟨y,hy⟩:∃ y,(l.map (·.1))[j]?=some y:=⟨_,List.getElem?_eq_getElem (by simpa using hjl)⟩
   obtain⟨d0,-⟩:=p9 hcell hy
   have HY:=kH hy
   have hll:(j:Int)<(l.length:Int):=by omega
   unfold maxLen at hcm
   have hlc:l.length<=24:=by have:=HR.out.few;have:=HR.out.mosts;omega
   generalize hln:l.length=ln at *
   have HLN:=kH hln
   clear hv0 hv1 hrow hcell hy hln
   by_cases hyc:y=c
   ·subst hyc
    go_wp2
    rw[Exit.noGoto_ret]
    go_ret2
    refine⟨q,true,rfl,.yes HQS.out HVV.out HY.out,by have:=HSR.out;rw[<-HN.out,<-HLN.out]at this;exact this⟩
   ·have hyc':(y == c)=false:=by simpa using hyc
    have HYC:=kH hyc
    have hmk:=HMK.out
    clear hyc
    go_wp2
    go_roundg (N-(e+1))
    case measure=>have:=HNN.out;omega
    case rel =>
     refine⟨e+1,fM N h0 (e+1),by omega,by go_num,rfl,rfl,by have:=HNN.out;omega,fun e' he'=>?_,HSR.out⟩
     rcases Nat.lt_or_ge e' e with h|h
     ·exact HNO.out e' h
     ·have:e'=e:=by omega
      subst this
      rw[<-HQ.out,HVV.out]
      refine⟨by omega,fun j' hj'=>?_⟩
      have:j'=j:=by omega
      subst this
      rw[HY.out]
      intro h
      injection h with h
      exact HYC.out h
end
section
variable {w0:World}{X:List Nat}{Cs:List aw}{w:World}
theorem ah.asRow{W:World}{Y:List Nat}{Ds:List aw}{w1:World}{g:Nat}{o:Obj}{e:TypeId}{sz:Nat}{v:Value}{n:Nat}{xs:List Value}(h:ah w1 Y (ag g o::Ds) W)(hr:aD W e sz v n xs)(hf:bR v=[g]):ah w1 Y (aN e sz v n xs::Ds) W :=
 h.call1 (C3:=[aN e sz v n xs]) ⟨aQ.refl _ _,fun c hc=>by rw[List.mem_singleton.1 hc];exact hr,by simp[cu,aN,hf],fun x hx=>by simp[cu,aN,hf]at hx;exact .inl (by simp[ag,hx])⟩
def evZ:Value:=.agg #[.int .i64 0,.int .i64 0,.int .i64 0,.int .i64 0,.int .i64 0,.int .i64 0,.bool false,.int .i64 0,.int .i64 0,.int .i64 0,.int .u64 0,.int .u64 0,.int .u64 0,.int .u64 0,.int .u64 0,.int .u64 0,.int .u64 0,.int .u64 0,.int .i64 0]
theorem tS:(Tryz.prog.info? 44).map (fun i=>(i.zero,i.size,i.bytes))=some (some evZ,19,152):=by kernel_rfl
theorem zW(hS:ah w0 X Cs w)(n:Nat)(h0:0<n)(h1:n<=1073741824) :
  Calls Tryz.prog 106 #[.slice none 0 0,.int .i64 n] w
   (fun e w'=>∃ g cap,e=.returned (.slice (some ⟨g,0,none⟩) 0 cap)/\ah w0 X (aN 44 19 (.slice (some ⟨g,0,none⟩) 0 cap) 0 []::Cs) w'):=by
 obtain⟨i0,yi,yz0,yz1,yz2⟩:=info_parts tS
 have hzs:evZ.cells.size=19:=rfl
 have HZ:=kH hzs
 clear hzs
 have hrz:=fun W=>Lib.run_append_nil_zeros (P:=Tryz.prog) W 37 3 37 44 i0 _ .i64 .i64 Tryz.underlying37 Tryz.underlying3 yi yz0 n h0 (by rw[yz1];decide) (by omega) (by rw[yz2];omega)
 generalize evZ.cells=zc at hrz HZ
 have HS:=kH hS
 have HC:=kH (And.intro (grownCap_ge w n 0 44) (grownCap_le_maxLen w n 0 44 (by unfold maxLen;omega)))
 have hw:IntKind.i64.wrap (n:Int)=n:=IntWalk.i64_in _ (by omega)
 clear hS
 go_enter Tryz.func106,Tryz.ntmps106
 go_wp2_with(at_builtin;refine Lib.wpList_append_run _ rfl _ _ _ _ rfl _ _ rfl rfl _ _ (hrz _) ?_)
 go_ret
 obtain⟨hc1,hc2⟩:=HC.out
 generalize grownCap w n 0 44=cap at *
 refine⟨w.heap.size,cap,rfl,?_⟩
 refine ah.asRow (g:=w.heap.size) (n:=0) (xs:=[]) ((HS.out.new _).drew) ⟨by simp,.inr ⟨w.heap.size,cap,_,rfl,Nat.zero_le _,((HS.out.new _).drew).h0,Nat.zero_le _,hc2,?_,by simp⟩⟩ rfl
 rw[Array.size_append,size_zeroCells,size_zeroCells,HZ.out]
 omega
theorem BQ{b N a cap g:Nat}{xs:List Value}(hS:ah w0 X (ag b (.cells #[.slice (some ⟨g,a*19,none⟩) (N-a) (cap-a),.slice none 0 0] 37 (0,0))::aN 44 19 (.slice (some ⟨g,0,none⟩) N cap) N xs::Cs) w)(ha:a<N)(hN:N<=1073741824)(h1:∀ u∈xs,u.oneCell'=true) :
  Calls Tryz.prog 71 #[.slice (some ⟨b,0,none⟩) 2 2] w
   (fun e w'=>∃ ev,e=.returned ev/\ah w0 X (aN 44 19 ev (N-a) (xs.drop (a*19))::aN 44 19 (.slice (some ⟨g,0,none⟩) N cap) N xs::Cs) w'):=by
 obtain⟨i0,yi,yz0,yz1,yz2⟩:=info_parts tS
 have c0:=hS.cell 0
 have c1:=hS.cell 1
 simp only[gA,gZ,gS]at c0 c1
 have hlt:=af hS.h0
 obtain⟨M,hM⟩:∃ M,N-a=M:=⟨_,rfl⟩
 have hM0:0<M:=by omega
 have hMN:M<=1073741824:=by omega
 have HG:=kH (zW hS M hM0 hMN)
 have hw:IntKind.i64.wrap (M:Int)=M:=IntWalk.i64_in _ (by omega)
 have hr:aD w 44 19 (.slice (some ⟨g,0,none⟩) N cap) N xs:=hS.h1
 have HL:=kH hr.1
 have H1:=kH (show ∀ u∈xs.drop (a*19),u.oneCell'=true from fun u hu=>h1 u (List.mem_of_mem_drop hu))
 have HM:=kH hM
 rw[hM]at c0
 clear hS hr h1 hM
 go_enter Tryz.func71,Tryz.ntmps71
 go_wp2_with fail
 refine wp_loop_rounds 3 ?_
 rw[rounds_succ]
 go_wp2_with fail
 rw[rounds_succ]
 go_wp2_with fail
 rw[rounds_succ]
 go_wp2_with fail
 refine HG.out.mono ?_
 rintro e w1 ⟨g1,cap1,rfl,S1⟩
 rw[HM.out]at S1
 have d0:=S1.cell1 0
 have d1:=S1.cell1 1
 simp only[gA,gZ,gS]at d0 d1
 have HS1:=kH S1
 have hrow:aD w1 44 19 (.slice (some ⟨g,0,none⟩) N cap) N xs:=S1.h2
 clear S1 c0 c1
 go_wp2_with fail
 refine wp_loop_rounds 3 ?_
 rw[rounds_succ]
 have hsl:(xs.drop (a*19)).length=M*19:=by rw[List.length_drop,HL.out,<-HM.out,Nat.sub_mul]
 have HNEWS:Hid (∀ (j:Nat) (u:Value),(xs.drop (a*19))[j]?=some u->w1.cell? ((⟨g,a*19,none⟩:Addr).add j)=some u):=fun j u hu=>by
  have e:(⟨g,a*19,none⟩:Addr).add j=⟨g,a*19+j,none⟩:=by unfold Addr.add;split<;>simp_all
  rw[e]
  rw[List.getElem?_drop]at hu
  obtain⟨q1,q2,q3,-,-,-,-,q6,-⟩:=hrow.read (by omega)
  injection q3 with q3 _ _
  injection q3 with q3
  injection q3 with q3 _ _
  rw[q3]
  exact q6 _ u hu
 have hnone:=fun ty W=>run_append_nothing (P:=Tryz.prog) W 37 37 ty 44 i0 Tryz.underlying37 yi
 clear hrow
 go_wp2_with(at_builtin;refine wpList_append_lies _ rfl (.tmp 31) (.tmp 32) 37 rfl 0 44 i0 _ 19 152 Tryz.underlying37 yi yz0 yz1 yz2 rfl (by decide) (.slice (some ⟨g1,0,none⟩) 0 cap1) 0 [] rfl HS1.out.h0 ⟨g,a*19,none⟩ M (cap-a) (xs.drop (a*19)) rfl hsl HNEWS.out H1.out hM0 (by unfold maxLen;omega) (by omega) (Nat.zero_le _) _ rfl ?_;intro g5 cap5 w5 hown5 hgrow5 hat5 hgl5;have S5:=HS1.out.append hgrow5 hown5 hat5 (Nat.le_refl _);have k1:=S5.cell1 1;simp only[gA,gZ,gS]at k1;have HS5:=kH S5;have hcap5:=(show aD w5 _ _ _ _ _ from S5.h0).slice;clear S5 hown5 hgrow5 hat5)
 rw[rounds_succ]
 have hle5:0+M<=cap5:=by
  obtain⟨q1,q2,q3,q4,q5⟩:=hcap5
  injection q3 with _ _ q6
  omega
 rw[Nat.zero_add]at hle5
 have hn5:=fun ty W=>hnone ty W (some ⟨g5,0,none⟩) M cap5 hle5 (.slice none 0 0) (Src.ofNil W Tryz.underlying37 0)
 clear hnone hcap5
 go_wp2_with(at_builtin;refine Lib.wpList_append_run _ rfl (.tmp 31) (.tmp 32) 37 37 rfl (.slice (some ⟨g5,0,none⟩) M cap5) (.slice none 0 0) rfl rfl (.slice (some ⟨g5,0,none⟩) M cap5) _ (hn5 _ _) ?_)
 rw[rounds_succ]
 go_wp2
 go_ret
 have h:=HS5.out
 simp only[Nat.zero_add,List.nil_append]at h
 rw[HM.out]
 exact⟨_,rfl,h.sw.drop⟩
theorem zd{b N a cap g M2 cap2 g2:Nat}{xs ys:List Value}(hS:ah w0 X (ag b (.cells #[.slice (some ⟨g,a*19,none⟩) (N-a) (cap-a),.slice (some ⟨g2,0,none⟩) M2 cap2] 37 (0,0))::aN 44 19 (.slice (some ⟨g,0,none⟩) N cap) N xs::aN 44 19 (.slice (some ⟨g2,0,none⟩) M2 cap2) M2 ys::Cs) w)(ha:a<N)(h0:0<M2)(hN:N+M2<=1073741824)(h1:∀ u∈xs,u.oneCell'=true)(h2:∀ u∈ys,u.oneCell'=true) :
  Calls Tryz.prog 71 #[.slice (some ⟨b,0,none⟩) 2 2] w
   (fun e w'=>∃ ev,e=.returned ev/\ah w0 X (aN 44 19 ev (N-a+M2) (xs.drop (a*19)++ys)::aN 44 19 (.slice (some ⟨g,0,none⟩) N cap) N xs::aN 44 19 (.slice (some ⟨g2,0,none⟩) M2 cap2) M2 ys::Cs) w'):=by
 obtain⟨i0,yi,yz0,yz1,yz2⟩:=info_parts tS
 have c0:=hS.cell 0
 have c1:=hS.cell 1
 simp only[gA,gZ,gS]at c0 c1
 have hlt:=af hS.h0
 obtain⟨M,hM⟩:∃ M,N-a=M:=⟨_,rfl⟩
 have hM0:0<M:=by omega
 have hMN:M<=1073741824:=by omega
 have hMM:M+M2<=1073741824:=by omega
 have HG:=kH (zW hS (M+M2) (by omega) hMM)
 have hw:IntKind.i64.wrap (M:Int)=M:=IntWalk.i64_in _ (by omega)
 have hw2:IntKind.i64.wrap ((M:Int)+(M2:Int))=((M+M2:Nat):Int):=by rw[show((M+M2:Nat):Int)=(M:Int)+(M2:Int) by omega];exact IntWalk.i64_in _ (by omega)
 have H2:=kH h2
 have hr:aD w 44 19 (.slice (some ⟨g,0,none⟩) N cap) N xs:=hS.h1
 have HL:=kH hr.1
 have H1:=kH (show ∀ u∈xs.drop (a*19),u.oneCell'=true from fun u hu=>h1 u (List.mem_of_mem_drop hu))
 have HM:=kH hM
 rw[hM]at c0
 clear hS hr h1 h2 hM
 go_enter Tryz.func71,Tryz.ntmps71
 go_wp2_with fail
 refine wp_loop_rounds 3 ?_
 rw[rounds_succ]
 go_wp2_with fail
 rw[rounds_succ]
 go_wp2_with fail
 rw[rounds_succ]
 go_wp2_with fail
 refine HG.out.mono ?_
 rintro e w1 ⟨g1,cap1,rfl,S1⟩
 rw[HM.out]at S1
 have d0:=S1.cell1 0
 have d1:=S1.cell1 1
 simp only[gA,gZ,gS]at d0 d1
 have HS1:=kH S1
 have hrow:aD w1 44 19 (.slice (some ⟨g,0,none⟩) N cap) N xs:=S1.h2
 clear S1 c0 c1
 go_wp2_with fail
 refine wp_loop_rounds 3 ?_
 rw[rounds_succ]
 have hsl:(xs.drop (a*19)).length=M*19:=by rw[List.length_drop,HL.out,<-HM.out,Nat.sub_mul]
 have HNEWS:Hid (∀ (j:Nat) (u:Value),(xs.drop (a*19))[j]?=some u->w1.cell? ((⟨g,a*19,none⟩:Addr).add j)=some u):=fun j u hu=>by
  have e:(⟨g,a*19,none⟩:Addr).add j=⟨g,a*19+j,none⟩:=by unfold Addr.add;split<;>simp_all
  rw[e]
  rw[List.getElem?_drop]at hu
  obtain⟨q1,q2,q3,-,-,-,-,q6,-⟩:=hrow.read (by omega)
  injection q3 with q3 _ _
  injection q3 with q3
  injection q3 with q3 _ _
  rw[q3]
  exact q6 _ u hu
 clear hrow
 go_wp2_with(at_builtin;refine wpList_append_lies _ rfl (.tmp 31) (.tmp 32) 37 rfl 0 44 i0 _ 19 152 Tryz.underlying37 yi yz0 yz1 yz2 rfl (by decide) (.slice (some ⟨g1,0,none⟩) 0 cap1) 0 [] rfl HS1.out.h0 ⟨g,a*19,none⟩ M (cap-a) (xs.drop (a*19)) rfl hsl HNEWS.out H1.out hM0 (by unfold maxLen;omega) (by omega) (Nat.zero_le _) _ rfl ?_;intro g5 cap5 w5 hown5 hgrow5 hat5 hgl5;have S5:=HS1.out.append hgrow5 hown5 hat5 (Nat.le_refl _);have k1:=S5.cell1 1;simp only[gA,gZ,gS]at k1;have HS5:=kH S5;have hcap5:=(show aD w5 _ _ _ _ _ from S5.h0).slice;clear S5 hown5 hgrow5 hat5)
 rw[rounds_succ]
 have hrow5:aD w5 44 19 (.slice (some ⟨g2,0,none⟩) M2 cap2) M2 ys:=HS5.out.h3
 have HL2:=kH hrow5.1
 have HNEW2:Hid (∀ (j:Nat) (u:Value),ys[j]?=some u->w5.cell? ((⟨g2,0,none⟩:Addr).add j)=some u):=fun j u hu=>by
  have e:(⟨g2,0,none⟩:Addr).add j=⟨g2,j,none⟩:=by unfold Addr.add;split<;>simp_all
  rw[e]
  obtain⟨q1,q2,q3,-,-,-,-,q6,-⟩:=hrow5.read (by omega)
  injection q3 with q3 _ _
  injection q3 with q3
  injection q3 with q3 _ _
  rw[q3]
  exact q6 _ u hu
 clear hrow5 hcap5
 go_wp2_with(at_builtin;refine wpList_append_lies _ rfl (.tmp 31) (.tmp 32) 37 rfl 0 44 i0 _ 19 152 Tryz.underlying37 yi yz0 yz1 yz2 rfl (by decide) (.slice (some ⟨g5,0,none⟩) M cap5) M (xs.drop (a*19)) rfl (by have h:=HS5.out.h0;simp only[Nat.zero_add,List.nil_append]at h;exact h) ⟨g2,0,none⟩ M2 cap2 ys rfl HL2.out HNEW2.out H2.out h0 (by unfold maxLen;omega) (by omega) (Nat.zero_le _) _ rfl ?_;intro g6 cap6 w6 hown6 hgrow6 hat6 hgl6;have S6:=HS5.out;simp only[Nat.zero_add,List.nil_append]at S6;have S7:=S6.append hgrow6 hown6 hat6 (Nat.le_refl _);have HS7:=kH S7;clear S6 S7 hown6 hgrow6 hat6)
 rw[rounds_succ]
 go_wp2
 go_ret
 rw[HM.out]
 exact⟨_,rfl,HS7.out.sw.drop⟩
end
namespace Plc
open Go.RowKit
def sumSz(rs:List (Int×Int))(k:Nat):Int:=((rs.take k).map fun r=>sizeN r.1 r.2).sum
theorem sum_snoc(rs:List (Int×Int))(k:Nat)(h:k<rs.length):sumSz rs (k+1)=sumSz rs k+sizeN (rs.getD k (0,0)).1 (rs.getD k (0,0)).2:=by
 unfold sumSz
 rw[List.take_succ_eq_append_getElem h,List.map_append,List.sum_append]
 simp[List.getD_eq_getElem?_getD,h]
theorem sum_bd(rs:List (Int×Int))(k:Nat)(h:k<=rs.length):0<=sumSz rs k/\sumSz rs k<=49*k:=by
 induction k with
 | zero=>simp[sumSz]
 | succ k ih =>
  have h1:=ih (by omega)
  have h2:=size_bd (rs.getD k (0,0)).1 (rs.getD k (0,0)).2
  rw[sum_snoc rs k (by omega)]
  omega
theorem pj(w:World)(B:Nat)(c:Cfg)(v:Value)(rs:List (Int×Int))(r:Nat)(hr:ReadsR w B v rs)(hB:B<=w.heap.size)(hn:rs.length<=8)(hrn:r<=rs.length)(h0:1<=c.raw)(h1:c.raw<=64) :
  Calls Tryz.prog 52 #[c.val v,.int .i64 (r:Int)] w (dd (.int .i64 (c.raw+sumSz rs r)) w):=by
 obtain⟨hl,a,cp,rfl,hcp,hcm,hr⟩:=hr
 obtain⟨raw,ring,writes,stamps,multi,tries⟩:=c
 dsimp only at h0 h1
 have HR:=kH hr
 unfold Cfg.val Cfg.cells
 dsimp only
 have hrc:(r:Int)<=(cp:Int):=by omega
 have hr0:(0:Int)<=(r:Int):=by omega
 clear hr
 go_enter Tryz.func52,Tryz.ntmps52
 go_wp2
 have hs0:sumSz rs 0=0:=rfl
 go_loopg[5,17] (r+1) (fun n vs vk wr=>∃ (k:Nat),k<=r/\vk=.int .i64 k/\vs=.int .i64 (raw+sumSz rs k)/\n+k=r+1/\Below w.heap.size w wr)
 case atStart=>exact⟨0,Nat.zero_le _,rfl,by rw[hs0,Int.add_zero],rfl,ai _ _⟩
 case round =>
  clear hs0
  obtain⟨k,hk,rfl,rfl,hn',bel⟩:=hrel
  have HN:=kH hn'
  have hsb:=sum_bd rs k (by omega)
  clear hn'
  by_cases hlt:k<r
  ·rcases HR.out with h|⟨b,off,rfl,hbB,hcell⟩
   ·exact absurd (Nat.lt_of_lt_of_le hlt hrn) (by rw[h];simp)
   have hc0:=(bel.cell (p:=⟨b,off+k*2,none⟩) (by simp;omega)).trans (hcell k (by omega)).1
   have hc1:=(bel.cell (p:=⟨b,off+k*2+1,none⟩) (by simp;omega)).trans (hcell k (by omega)).2
   have hsn:=sum_snoc rs k (by omega)
   generalize (rs.getD k (0,0)).1=kind at *
   generalize (rs.getD k (0,0)).2=cap at *
   have hz:=size_bd kind cap
   have hbs:b<wr.heap.size:=by have:=bel.size;omega
   have hlt':(k:Int)<(r:Int):=by omega
   have HS:=kH hsn
   clear hcell hsn
   generalize hS:sumSz rs k=S at *
   have HSS:=kH hS
   clear hS
   go_wp2_with fail
   refine(mA kind cap _).mono ?_
   rintro e w1 ⟨rfl,hb1⟩
   simp only[mG]
   generalize hZ:sizeN kind cap=Z at *
   have HZ:=kH hZ
   clear hZ
   go_wp2
   go_roundg (r-k)
   case measure=>have:=HN.out;omega
   case rel=>exact⟨k+1,by omega,by go_num,by rw[HS.out,<-Int.add_assoc],by omega,bel.trans ((dK (ai _ _) hb1).mono bel.size)⟩
  ·have hk':k=r:=by omega
   subst hk'
   go_wp2
   go_ret
   exact⟨rfl,bel⟩
def cellsV(c:Cfg)(rs:List (Int×Int)):Value:=.tuple #[.int .i64 (if checkE c rs=0 then c.raw+sumSz rs rs.length else 0),.int .i64 (checkE c rs)]
def baseV(c:Cfg)(rs:List (Int×Int))(r:Int):Value :=
 if checkE c rs=0 then(if r<0\/rs.length<=r then .tuple #[.int .i64 0,.int .i64 1]else .tuple #[.int .i64 (c.raw+sumSz rs r.toNat),.int .i64 0])else .tuple #[.int .i64 0,.int .i64 (checkE c rs)]
theorem check_ok{c:Cfg}{rs:List (Int×Int)}(h:checkE c rs=0):gr c rs.length=true:=by
 unfold checkE at h
 split at h
 ·rename_i h1;exact h1.1
 ·omega
theorem Cells_calls(w:World)(B:Nat)(c:Cfg)(v:Value)(rs:List (Int×Int))(hr:ReadsR w B v rs)(hB:B<=w.heap.size) :
  Calls Tryz.prog 31 #[c.val v] w (dd (cellsV c rs) w):=by
 have HR:=kH hr
 obtain⟨hl,a,cp,rfl,hcp,hcm,-⟩:=hr
 by_cases hE:checkE c rs=0
 ·obtain⟨f0,f1,-,-,-,-,-,-,-,-,f2⟩:=of_decide_eq_true (check_ok hE)
  have e:cellsV c rs=.tuple #[.int .i64 (c.raw+sumSz rs rs.length),.int .i64 0]:=by unfold cellsV;rw[if_pos hE,hE]
  rw[e]
  have HC:=kH (fun w B v h1 h2=>Check_calls w B c v rs h1 h2)
  have HE:=kH hE
  have HH:=kH (fun w B v h1 h2=>pj w B c v rs rs.length h1 h2 f2 (Nat.le_refl _) f0 f1)
  unfold Cfg.val Cfg.cells at *
  clear e hE
  go_enter Tryz.func31,Tryz.ntmps31
  go_wp2_with fail
  refine(HC.out _ B _ (HR.out.below ((ai _ _).mono hB)) (by simp;omega)).mono ?_
  rintro e w1 ⟨rfl,hb1⟩
  rw[HE.out]
  have hc:=kM hb1 (aj (w:=w) rfl)
  obtain⟨q0,q1,q2,q3,q4,q5,q6⟩:=iD hc
  have hb01:=dK (ai _ _) hb1
  clear hc
  go_wp2_with fail
  refine(HH.out _ B _ (HR.out.below (hb01.mono hB)) (Nat.le_trans hB hb01.size)).mono ?_
  rintro e w2 ⟨rfl,hb2⟩
  go_wp2
  go_ret2
  exact⟨rfl,hb01.trans (hb2.mono hb01.size)⟩
 ·have e:cellsV c rs=.tuple #[.int .i64 0,.int .i64 (checkE c rs)]:=by unfold cellsV;rw[if_neg hE]
  rw[e]
  have HC:=kH (fun w B v h1 h2=>Check_calls w B c v rs h1 h2)
  unfold Cfg.val Cfg.cells at *
  have hE':(checkE c rs != 0)=true:=by simpa using hE
  clear e hE
  go_enter Tryz.func31,Tryz.ntmps31
  go_wp2_with fail
  refine(HC.out _ B _ (HR.out.below ((ai _ _).mono hB)) (by simp;omega)).mono ?_
  rintro e w1 ⟨rfl,hb1⟩
  go_wp2
  go_ret2
  exact⟨rfl,dK (ai _ _) hb1⟩
theorem Base_calls(w:World)(B:Nat)(c:Cfg)(v:Value)(rs:List (Int×Int))(r:Int)(hr:ReadsR w B v rs)(hB:B<=w.heap.size) :
  Calls Tryz.prog 37 #[c.val v,.int .i64 r] w (dd (baseV c rs r) w):=by
 have HR:=kH hr
 obtain⟨hl,a,cp,rfl,hcp,hcm,-⟩:=hr
 by_cases hE:checkE c rs=0
 ·obtain⟨f0,f1,-,-,-,-,-,-,-,-,f2⟩:=of_decide_eq_true (check_ok hE)
  have HC:=kH (fun w B v h1 h2=>Check_calls w B c v rs h1 h2)
  have HE:=kH hE
  rcases(show(r<0\/(0<=r/\rs.length<=r))\/(0<=r/\r<rs.length)from by omega)with h|⟨h,h'⟩
  ·have e:baseV c rs r=.tuple #[.int .i64 0,.int .i64 1]:=by unfold baseV;rw[if_pos hE,if_pos (by omega)]
   rw[e]
   unfold Cfg.val Cfg.cells at *
   clear e hE
   rcases h with h|⟨h,h'⟩
   all_goals
    go_enter Tryz.func37,Tryz.ntmps37
    go_wp2_with fail
    refine(HC.out _ B _ (HR.out.below ((ai _ _).mono hB)) (by simp;omega)).mono ?_
    rintro e w1 ⟨rfl,hb1⟩
    rw[HE.out]
    have hc:=kM hb1 (aj (w:=w) rfl)
    obtain⟨q0,q1,q2,q3,q4,q5,q6⟩:=iD hc
    clear hc
    go_wp2
    go_ret2
    exact⟨rfl,dK (ai _ _) hb1⟩
  ·have e:baseV c rs r=.tuple #[.int .i64 (c.raw+sumSz rs r.toNat),.int .i64 0]:=by unfold baseV;rw[if_pos hE,if_neg (by omega)]
   rw[e]
   obtain⟨r,rfl⟩:=Int.eq_ofNat_of_zero_le h
   rw[Int.toNat_natCast]
   have HH:=kH (fun w B v h1 h2=>pj w B c v rs r h1 h2 f2 (by omega) f0 f1)
   unfold Cfg.val Cfg.cells at *
   clear e hE
   go_enter Tryz.func37,Tryz.ntmps37
   go_wp2_with fail
   refine(HC.out _ B _ (HR.out.below ((ai _ _).mono hB)) (by simp;omega)).mono ?_
   rintro e w1 ⟨rfl,hb1⟩
   rw[HE.out]
   have hc:=kM hb1 (aj (w:=w) rfl)
   obtain⟨q0,q1,q2,q3,q4,q5,q6⟩:=iD hc
   have hb01:=dK (ai _ _) hb1
   clear hc
   go_wp2_with fail
   refine(HH.out _ B _ (HR.out.below (hb01.mono hB)) (Nat.le_trans hB hb01.size)).mono ?_
   rintro e w2 ⟨rfl,hb2⟩
   go_wp2
   go_ret2
   exact⟨rfl,hb01.trans (hb2.mono hb01.size)⟩
 ·have e:baseV c rs r=.tuple #[.int .i64 0,.int .i64 (checkE c rs)]:=by unfold baseV;rw[if_neg hE]
  rw[e]
  have HC:=kH (fun w B v h1 h2=>Check_calls w B c v rs h1 h2)
  unfold Cfg.val Cfg.cells at *
  have hE':(checkE c rs != 0)=true:=by simpa using hE
  clear e hE
  go_enter Tryz.func37,Tryz.ntmps37
  go_wp2_with fail
  refine(HC.out _ B _ (HR.out.below ((ai _ _).mono hB)) (by simp;omega)).mono ?_
  rintro e w1 ⟨rfl,hb1⟩
  go_wp2
  go_ret2
  exact⟨rfl,dK (ai _ _) hb1⟩
end Plc
namespace Plc
open Go.RowKit Go.ChangeShapes Go.WideShapes Go.Deep Go.ChangeAt
section
variable {H:Type}{enc:TypeId×Value->H}{P:Program}{w:World}
def Fits(P:Program)(t:TypeId)(d:DataW H):Prop:=∀ n∈d.weights P t,n<=reachBytes
theorem fits_each{ts:List TypeId}{ds:List (DataW H)}(h:(DataW.weightsEach P ts ds).all (·<=reachBytes)=true){j:Nat}{t:TypeId}{d:DataW H}(ht:ts[j]?=some t)(hd:ds[j]?=some d):Fits P t d :=
 fun n hn=>by simpa using List.all_eq_true.1 h n (DataW.weights_mem_each ht hd n hn)
theorem fits_struct{t:TypeId}{fs:Array Field}{parts:List (DataW H)}(hs:P.underlying t=some (.struct fs))(h:Fits P t (.agg parts)){j:Nat}{u:TypeId}{d:DataW H}
  (ht:(fs.toList.map (·.type))[j]?=some u) (hd:parts[j]?=some d):Fits P u d:=by
 intro n hn
 apply h n
 simp only[DataW.weights,hs]
 exact DataW.weights_mem_each ht hd n hn
theorem fits_len{t e:TypeId}{elems spare:List (DataW H)}(hs:P.underlying t=some (.slice e))(h:Fits P t (.slice elems spare)):(elems.length+spare.length)*P.bytesOf e<=reachBytes :=
 h _ (by simp[DataW.weights,hs])
theorem exists_list{α:Type}(d:α)(Q:Nat->α->Prop):∀ n:Nat,(∀ i,i<n->∃ x,Q i x)->∃ l:List α,l.length=n/\∀ i,i<n->Q i (l.getD i d)
 | 0,_=>⟨[],rfl,fun i hi=>by omega⟩
 | n+1,h=>by
  obtain⟨l,hl,hq⟩:=exists_list d Q n (fun i hi=>h i (by omega))
  obtain⟨x,hx⟩:=h n (by omega)
  refine⟨l++[x],by simp[hl],fun i hi=>?_⟩
  by_cases e:i=n
  ·subst e
   simpa[List.getD_eq_getElem?_getD,<-hl]using hx
  ·have:=hq i (by omega)
   rw[List.getD_eq_getElem?_getD,List.getElem?_append_left (by omega)]
   simpa[List.getD_eq_getElem?_getD]using this
end
theorem own:ownKnob Tryz.prog.godebug=none:=by kernel_rfl
theorem laidOut:laidOutB Tryz.prog=true:=by kernel_rfl
end Plc
section
open Go.RowKit Go.ChangeShapes Go.WideShapes Go.Deep Go.ChangeAt
def gN(l:List (Int×List Int×Value)):List Value:=l.flatMap fun j=>[.int .i64 j.1,j.2.2]
def ct(w:World)(B:Nat)(v:Value)(n sz:Nat)(vs:List Value):Prop :=
 vs.length=n*sz/\∃ (a:Option Addr) (c:Nat),v=.slice a n c/\n<=c/\c<=maxLen/\(n=0\/∃ b off,a=some ⟨b,off,none⟩/\b<B/\∀ j u,vs[j]?=some u->w.cell? ⟨b,off+j,none⟩=some u)
theorem ct.below{w w':World}{B n sz:Nat}{v:Value}{vs:List Value}(h:ct w B v n sz vs)(hb:Below B w w'):ct w' B v n sz vs:=by
 obtain⟨h1,a,c,h2,h3,h4,h5⟩:=h
 refine⟨h1,a,c,h2,h3,h4,?_⟩
 rcases h5 with h5|⟨b,off,e,hB,hc⟩
 ·exact .inl h5
 ·exact .inr ⟨b,off,e,hB,fun j u hu=>(hb.cell (p:=⟨b,off+j,none⟩) hB).trans (hc j u hu)⟩
theorem ct.up{w:World}{B B' n sz:Nat}{v:Value}{vs:List Value}(h:ct w B v n sz vs)(hb:B<=B'):ct w B' v n sz vs:=by
 obtain⟨h1,a,c,h2,h3,h4,h5⟩:=h
 exact⟨h1,a,c,h2,h3,h4,h5.imp id fun⟨b,off,e,hB,hc⟩=>⟨b,off,e,Nat.lt_of_lt_of_le hB hb,hc⟩⟩
section
variable {H:Type}{enc:TypeId×Value->H}{P:Program}{w:World}
theorem jg{e:TypeId}:∀ {l:List (DataW H)} {i:Nat} {d:DataW H},l[i]?=some d->∀ n∈d.weights P e,n∈DataW.weightsAll P e l
 | [],_,_,h,_,_=>by simp at h
 | x::l,0,d,h,n,hn=>by
  simp at h
  subst h
  simp only[DataW.weightsAll,List.mem_append]
  exact .inl hn
 | x::l,i+1,d,h,n,hn=>by
  simp only[DataW.weightsAll,List.mem_append]
  exact .inr (jg (by simpa using h) n hn)
theorem fits_el{t e:TypeId}{elems spare:List (DataW H)}(hs:P.underlying t=some (.slice e))(h:Plc.Fits P t (.slice elems spare)){i:Nat}{d:DataW H}(hd:elems[i]?=some d):Plc.Fits P e d:=by
 intro n hn
 apply h n
 simp only[DataW.weights,hs,List.mem_cons,List.mem_append]
 exact .inr (.inl (jg hd n hn))
theorem sM{α:Type}{en:α->List Value}{sz:Nat}(hen:∀ x,(en x).length=sz):∀ (l:List α) (j:Nat) (u:Value),(l.flatMap en)[j]?=some u->∃ i q x,j=i*sz+q/\i<l.length/\q<sz/\l[i]?=some x/\(en x)[q]?=some u
 | [],j,u,h=>by simp at h
 | x::l,j,u,h=>by
  rw[List.flatMap_cons]at h
  by_cases hj:j<sz
  ·rw[List.getElem?_append_left (by rw[hen];exact hj)]at h
   exact⟨0,j,x,by simp,by simp,hj,rfl,h⟩
  ·rw[List.getElem?_append_right (by rw[hen];omega),hen]at h
   obtain⟨i,q,y,h1,h2,h3,h4,h5⟩:=sM hen l _ u h
   exact⟨i+1,q,y,by rw[Nat.add_mul];omega,by simp;omega,h3,by simpa using h4,h5⟩
theorem o6{α:Type}{en:α->List Value}{sz:Nat}(hen:∀ x,(en x).length=sz):∀ (l:List α),(l.flatMap en).length=l.length*sz
 | []=>by simp
 | x::l=>by
  rw[List.flatMap_cons,List.length_append,hen,o6 hen l,List.length_cons,Nat.add_mul]
  omega
theorem gb{α:Type} [Inhabited α]{t e:TypeId}{fuel sz by':Nat}{v:Value}{y:DataW H×List MemPlace}(ht:P.underlying t=some (.slice e))(hC:P.cellsOf e=sz)(hby:P.bytesOf e=by')(hb0:0<by')(hsz:0<sz)
  (en:α->List Value) (hen:∀ x,(en x).length=sz) (G:α->Prop)
  (hel:∀ (cs:List Value) (n:Nat) (y:DataW H×List MemPlace),cs.length=sz->DataW.trod enc P w 0 (fun _=>true) true n e cs=some y->Plc.Fits P e y.1->∃ x,cs=en x/\G x)
  (h:DataW.trod enc P w 0 (fun _=>true) true fuel t [v]=some y) (hf:Plc.Fits P t y.1):∃ l:List α,ct w w.heap.size v l.length sz (l.flatMap en)/\(∀ x∈l,G x)/\l.length*by'<=reachBytes:=by
 rcases open_slice ht h with⟨h0,rfl⟩|⟨a,len,cap,m,n,D,Pl,hcs,_,hl,hm,hmm,hx,hi⟩
 ·simp at h0
  subst h0
  exact⟨[],⟨by simp,none,0,rfl,Nat.le_refl _,Nat.zero_le _,.inl rfl⟩,by simp,by simp⟩
 ·simp at hcs
  subst hcs hx
  have hlen:=Plc.fits_len ht hf
  rw[hby]at hlen
  simp only[List.length_map,List.length_range]at hlen
  simp at hmm
  have hz:∀ i,i<len->∃ x:α,(∀ q u,(en x)[q]?=some u->w.cell? (a.add (i*sz+q))=some u)/\G x:=by
   intro i hil
   obtain⟨cs',hc,ht'⟩:=hi i (by omega)
   rw[hC]at hc
   obtain⟨_,hcl2,hat⟩:=World.cells?_some hc
   obtain⟨x,rfl,hG⟩:=hel cs' _ _ hcl2 ht' (fits_el ht hf (i:=i) (by simp[hil]))
   refine⟨x,fun q u hu=>?_,hG⟩
   have hq:q<sz:=by
    have:=(List.getElem?_eq_some_iff.1 hu).1
    rw[hen]at this
    exact this
   have h1:=hat q hq
   rw[Go.Deep.add_add]at h1
   rw[h1,hu]
  obtain⟨l,hll,hq⟩:=Plc.exists_list (default:α) _ len hz
  have hxl:∀ i x,l[i]?=some x->i<len/\(∀ q u,(en x)[q]?=some u->w.cell? (a.add (i*sz+q))=some u)/\G x:=fun i x hx=>by
   have h1:=(List.getElem?_eq_some_iff.1 hx).1
   have h2:=hq i (by omega)
   rw[List.getD_eq_getElem?_getD,hx]at h2
   exact⟨by omega,h2⟩
  have hcap:len*by'<=(len+(m-len))*by':=Nat.mul_le_mul_right _ (by omega)
  refine⟨l,⟨o6 hen l,some a,cap,by rw[hll],by omega,hm,?_⟩,fun x hx=>?_,by rw[hll];omega⟩
  ·by_cases h0:len=0
   ·left
    omega
   ·right
    obtain⟨x0,hx0⟩:∃ x,l[0]?=some x:=⟨l[0]'(by omega),List.getElem?_eq_getElem _⟩
    have hc0:=(hxl 0 x0 hx0).2.1 0 ((en x0)[0]'(by rw[hen];exact hsz)) (List.getElem?_eq_getElem _)
    obtain⟨b,off,spot⟩:=a
    have hspot:spot=none:=by simpa[Addr.add]using World.cell?_spot hc0
    subst hspot
    have hadd:∀ j,(⟨b,off,none⟩:Addr).add j=⟨b,off+j,none⟩:=fun j=>by unfold Addr.add;split<;>simp_all
    rw[hadd]at hc0
    refine⟨b,off,rfl,by simpa using World.block_lt_of_cell? w _ hc0,fun j u hu=>?_⟩
    obtain⟨i,q,x,rfl,h1,h2,h3,h4⟩:=sM hen l j u hu
    have h5:=(hxl i x h3).2.1 q u h4
    rw[hadd]at h5
    exact h5
  ·obtain⟨i,hi',rfl⟩:=List.getElem_of_mem hx
   exact(hxl i _ (List.getElem?_eq_getElem _)).2.2
end
structure cQ where
 c:Plc.Cfg
 rv:Value
 rs:List (Int×Int)
 pv:Value
 progs:List ByteArray
 tv:Value
 tl:List (Value×List (Int×List Int×Value))
def cQ.val(s:cQ):Value:=.agg #[.int .i64 s.c.raw,.int .i64 s.c.ring,.int .i64 s.c.writes,.int .i64 s.c.stamps,.bool s.c.multi,.int .i64 s.c.tries,s.rv,s.pv,s.tv]
def JobR(w:World)(B:Nat)(j:Int×List Int×Value):Prop:=aI j.1/\(∀ z∈j.2.1,aI z)/\ct w B j.2.2 j.2.1.length 1 (bz j.2.1)/\j.2.1.length<=17592186044416
def DO(w:World)(B:Nat)(t:Value×List (Int×List Int×Value)):Prop:=ct w B t.1 t.2.length 2 (gN t.2)/\(∀ j∈t.2,JobR w B j)/\t.2.length<=4398046511104
structure cP(w:World)(B:Nat)(s:cQ):Prop where
 regs:ct w B s.rv s.rs.length 2 (s.rs.flatMap fun r=>[.int .i64 r.1,.int .i64 r.2])/\s.rs.length<=8796093021952
 progs:ct w B s.pv s.progs.length 1 (s.progs.map .string)/\s.progs.length<=8796093022208
 thr:ct w B s.tv s.tl.length 1 (s.tl.map (·.1))/\s.tl.length<=5864062014805
 each:∀ t∈s.tl,DO w B t
 word:aI s.c.raw/\aI s.c.ring/\aI s.c.writes/\aI s.c.stamps/\aI s.c.tries
theorem cP.below{w w':World}{B:Nat}{s:cQ}(h:cP w B s)(hb:Below B w w'):cP w' B s :=
 ⟨⟨h.regs.1.below hb,h.regs.2⟩,⟨h.progs.1.below hb,h.progs.2⟩,⟨h.thr.1.below hb,h.thr.2⟩,fun t ht=>⟨(h.each t ht).1.below hb,fun j hj=>⟨((h.each t ht).2.1 j hj).1,((h.each t ht).2.1 j hj).2.1,((h.each t ht).2.1 j hj).2.2.1.below hb,((h.each t ht).2.1 j hj).2.2.2⟩,(h.each t ht).2.2⟩,h.word⟩
theorem cP.up{w:World}{B B':Nat}{s:cQ}(h:cP w B s)(hb:B<=B'):cP w B' s :=
 ⟨⟨h.regs.1.up hb,h.regs.2⟩,⟨h.progs.1.up hb,h.progs.2⟩,⟨h.thr.1.up hb,h.thr.2⟩,fun t ht=>⟨(h.each t ht).1.up hb,fun j hj=>⟨((h.each t ht).2.1 j hj).1,((h.each t ht).2.1 j hj).2.1,((h.each t ht).2.1 j hj).2.2.1.up hb,((h.each t ht).2.1 j hj).2.2.2⟩,(h.each t ht).2.2⟩,h.word⟩
theorem ni{α:Type}(g:α->Value)(l:List α):l.flatMap (fun x=>[g x])=l.map g:=by
 induction l with
 | nil=>rfl
 | cons x l ih=>simp[ih]
theorem mj{z:Int}(h:(Lit.int .i64 z).wf=true):aI z:=by
 have:=bounds_i64 h
 unfold aI
 omega
section
variable {H:Type}{enc:TypeId×Value->H}{w:World}
theorem xP{fuel:Nat}{v:Value}{y:DataW H×List MemPlace}(h:DataW.trod enc Tryz.prog w 0 (fun _=>true) true fuel 66 [v]=some y)(hf:Plc.Fits Tryz.prog 66 y.1) :
  ∃ xs:List Int,ct w w.heap.size v xs.length 1 (bz xs)/\(∀ z∈xs,aI z)/\xs.length*8<=reachBytes:=by
 obtain⟨l,h1,h2,h3⟩:=gb (α:=Int) (by':=8) (sz:=1) Tryz.underlying66 (by kernel_rfl) (by kernel_rfl) (by decide) (by decide) (fun z=>[.int .i64 z]) (fun _=>rfl) aI (fun cs n y hl hy _=>by
  match cs,hl with
  | [c0],_ =>
   obtain⟨z,e,-,hw⟩:=DataW.trod_int Tryz.underlying2 hy
   simp at e
   exact⟨z,by rw[e],mj hw⟩) h hf
 refine⟨l,?_,h2,h3⟩
 rw[ni]at h1
 exact h1
theorem AG{fuel:Nat}{v:Value}{y:DataW H×List MemPlace}(h:DataW.trod enc Tryz.prog w 0 (fun _=>true) true fuel 61 [v]=some y)(hf:Plc.Fits Tryz.prog 61 y.1) :
  ∃ xs:List (Int×List Int×Value),DO w w.heap.size (v,xs):=by
 obtain⟨l,h1,h2,h3⟩:=gb (α:=Int×List Int×Value) (by':=32) (sz:=2) Tryz.underlying61 (by kernel_rfl) (by kernel_rfl) (by decide) (by decide) (fun j=>[.int .i64 j.1,j.2.2]) (fun _=>rfl) (JobR w w.heap.size) (fun cs n y hl hy hfy=>by
  match cs,hl with
  | [c0,c1],_ =>
   obtain⟨ys,n',_,hyx,hcl,hyl,hg⟩:=DataW.trod_struct Tryz.underlying68 hy
   match ys,hyl with
   | [y0,y1],_ =>
    have g0:DataW.trod enc Tryz.prog w 0 (fun _=>true) true n' 3 (([c0,c1].drop 0).take (Tryz.prog.cellsOf 3))=[y0,y1][0]?:=hg 0 _ rfl
    have g1:DataW.trod enc Tryz.prog w 0 (fun _=>true) true n' 66 (([c0,c1].drop 1).take (Tryz.prog.cellsOf 66))=[y0,y1][1]?:=hg 1 _ rfl
    rw[show Tryz.prog.cellsOf 3=1 by kernel_rfl]at g0
    rw[show Tryz.prog.cellsOf 66=1 by kernel_rfl]at g1
    rw[hyx]at hfy
    obtain⟨z0,e0,_,hw⟩:=DataW.trod_int Tryz.underlying3 (show DataW.trod enc Tryz.prog w 0 (fun _=>true) true n' 3 [c0]=some y0 by simpa using g0)
    obtain⟨xs,h1,h2,h3⟩:=xP (show DataW.trod enc Tryz.prog w 0 (fun _=>true) true n' 66 [c1]=some y1 by simpa using g1) (Plc.fits_struct Tryz.underlying68 hfy (j:=1) rfl rfl)
    simp at e0
    exact⟨(z0,xs,c1),by rw[e0],mj hw,h2,h1,by unfold reachBytes at h3;dsimp only;omega⟩) h hf
 exact⟨l,h1,h2,by unfold reachBytes at h3;dsimp only;omega⟩
theorem CA{fuel:Nat}{cs:List Value}{y:DataW H×List MemPlace}(hl:cs.length=7)(h:DataW.trod enc Tryz.prog w 0 (fun _=>true) true fuel 24 cs=some y)(hf:Plc.Fits Tryz.prog 24 y.1) :
  ∃ (c:Plc.Cfg) (rv:Value) (rs:List (Int×Int)),cs=[.int .i64 c.raw,.int .i64 c.ring,.int .i64 c.writes,.int .i64 c.stamps,.bool c.multi,.int .i64 c.tries,rv]/\(aI c.raw/\aI c.ring/\aI c.writes/\aI c.stamps/\aI c.tries)/\ct w w.heap.size rv rs.length 2 (rs.flatMap fun r=>[.int .i64 r.1,.int .i64 r.2])/\rs.length*16<=reachBytes:=by
 match cs,hl with
 | [c0,c1,c2,c3,c4,c5,c6],_ =>
  obtain⟨ys,n',_,hyx,hcl,hyl,hg⟩:=DataW.trod_struct Tryz.underlying24 h
  match ys,hyl with
  | [y0,y1,y2,y3,y4,y5,y6],_ =>
   have k1:Tryz.prog.cellsOf 3=1:=by kernel_rfl
   have k2:Tryz.prog.cellsOf 2=1:=by kernel_rfl
   have k3:Tryz.prog.cellsOf 4=1:=by kernel_rfl
   have k4:Tryz.prog.cellsOf 22=1:=by kernel_rfl
   have g0:DataW.trod enc Tryz.prog w 0 (fun _=>true) true n' 3 (([c0,c1,c2,c3,c4,c5,c6].drop 0).take (Tryz.prog.cellsOf 3))=[y0,y1,y2,y3,y4,y5,y6][0]?:=hg 0 _ rfl
   have g1:DataW.trod enc Tryz.prog w 0 (fun _=>true) true n' 3 (([c0,c1,c2,c3,c4,c5,c6].drop 1).take (Tryz.prog.cellsOf 3))=[y0,y1,y2,y3,y4,y5,y6][1]?:=hg 1 _ rfl
   have g2:DataW.trod enc Tryz.prog w 0 (fun _=>true) true n' 3 (([c0,c1,c2,c3,c4,c5,c6].drop 2).take (Tryz.prog.cellsOf 3))=[y0,y1,y2,y3,y4,y5,y6][2]?:=hg 2 _ rfl
   have g3:DataW.trod enc Tryz.prog w 0 (fun _=>true) true n' 2 (([c0,c1,c2,c3,c4,c5,c6].drop 3).take (Tryz.prog.cellsOf 2))=[y0,y1,y2,y3,y4,y5,y6][3]?:=hg 3 _ rfl
   have g4:DataW.trod enc Tryz.prog w 0 (fun _=>true) true n' 4 (([c0,c1,c2,c3,c4,c5,c6].drop 4).take (Tryz.prog.cellsOf 4))=[y0,y1,y2,y3,y4,y5,y6][4]?:=hg 4 _ rfl
   have g5:DataW.trod enc Tryz.prog w 0 (fun _=>true) true n' 3 (([c0,c1,c2,c3,c4,c5,c6].drop 5).take (Tryz.prog.cellsOf 3))=[y0,y1,y2,y3,y4,y5,y6][5]?:=hg 5 _ rfl
   have g6:DataW.trod enc Tryz.prog w 0 (fun _=>true) true n' 22 (([c0,c1,c2,c3,c4,c5,c6].drop 6).take (Tryz.prog.cellsOf 22))=[y0,y1,y2,y3,y4,y5,y6][6]?:=hg 6 _ rfl
   rw[k1]at g0 g1 g2 g5
   rw[k2]at g3
   rw[k3]at g4
   rw[k4]at g6
   rw[hyx]at hf
   obtain⟨z0,e0,_,w0⟩:=DataW.trod_int Tryz.underlying3 (show DataW.trod enc Tryz.prog w 0 (fun _=>true) true n' 3 [c0]=some y0 by simpa using g0)
   obtain⟨z1,e1,_,w1⟩:=DataW.trod_int Tryz.underlying3 (show DataW.trod enc Tryz.prog w 0 (fun _=>true) true n' 3 [c1]=some y1 by simpa using g1)
   obtain⟨z2,e2,_,w2⟩:=DataW.trod_int Tryz.underlying3 (show DataW.trod enc Tryz.prog w 0 (fun _=>true) true n' 3 [c2]=some y2 by simpa using g2)
   obtain⟨z3,e3,_,w3⟩:=DataW.trod_int Tryz.underlying2 (show DataW.trod enc Tryz.prog w 0 (fun _=>true) true n' 2 [c3]=some y3 by simpa using g3)
   obtain⟨z4,e4,_⟩:=DataW.trod_bool Tryz.underlying4 (show DataW.trod enc Tryz.prog w 0 (fun _=>true) true n' 4 [c4]=some y4 by simpa using g4)
   obtain⟨z5,e5,_,w5⟩:=DataW.trod_int Tryz.underlying3 (show DataW.trod enc Tryz.prog w 0 (fun _=>true) true n' 3 [c5]=some y5 by simpa using g5)
   obtain⟨rs,h1,-,h3⟩:=gb (α:=Int×Int) (by':=16) (sz:=2) Tryz.underlying22 (by kernel_rfl) (by kernel_rfl) (by decide) (by decide) (fun r=>[.int .i64 r.1,.int .i64 r.2]) (fun _=>rfl) (fun _=>True) (fun cs n y hl hy hfy=>by
    match cs,hl with
    | [d0,d1],_ =>
     obtain⟨us,n2,_,hux,_,hul,hh⟩:=DataW.trod_struct Tryz.underlying90 hy
     match us,hul with
     | [u0,u1],_ =>
      have f0:DataW.trod enc Tryz.prog w 0 (fun _=>true) true n2 3 (([d0,d1].drop 0).take (Tryz.prog.cellsOf 3))=[u0,u1][0]?:=hh 0 _ rfl
      have f1:DataW.trod enc Tryz.prog w 0 (fun _=>true) true n2 3 (([d0,d1].drop 1).take (Tryz.prog.cellsOf 3))=[u0,u1][1]?:=hh 1 _ rfl
      rw[k1]at f0 f1
      obtain⟨a0,b0,_,_⟩:=DataW.trod_int Tryz.underlying3 (show DataW.trod enc Tryz.prog w 0 (fun _=>true) true n2 3 [d0]=some u0 by simpa using f0)
      obtain⟨a1,b1,_,_⟩:=DataW.trod_int Tryz.underlying3 (show DataW.trod enc Tryz.prog w 0 (fun _=>true) true n2 3 [d1]=some u1 by simpa using f1)
      simp at b0 b1
      exact⟨(a0,a1),by rw[b0,b1],trivial⟩) (show DataW.trod enc Tryz.prog w 0 (fun _=>true) true n' 22 [c6]=some y6 by simpa using g6) (Plc.fits_struct Tryz.underlying24 hf (j:=6) rfl rfl)
   simp at e0 e1 e2 e3 e4 e5
   subst e0 e1 e2 e3 e4 e5
   exact⟨⟨z0,z1,z2,z3,z4,z5⟩,c6,rs,rfl,⟨mj w0,mj w1,mj w2,mj w3,mj w5⟩,h1,h3⟩
theorem qB{r:Reach}{b0:Nat}{v:Value}{d:DataW H}{p:List MemPlace}
  (hv:Value.okWide Tryz.prog w r b0 28 v) (h:DataW.Trod enc Tryz.prog w 0 (fun _=>true) true 28 v d p) (hf:Plc.Fits Tryz.prog 28 d) :
  ∃ s:cQ,v=s.val/\cP w w.heap.size s:=by
 obtain⟨cs,rfl,hsz⟩:=okWide_struct Tryz.underlying28 hv
 obtain⟨l⟩:=cs
 have hsz9:Tryz.prog.cellsOf 28=9:=by kernel_rfl
 match l,hsz.trans hsz9 with
 | [c0,c1,c2,c3,c4,c5,c6,c7,c8],_ =>
  obtain⟨fuel,hfu⟩:=h
  obtain⟨ys,n',_,hyx,hcl,hyl,hg⟩:=DataW.trod_struct Tryz.underlying28 hfu
  match ys,hyl with
  | [y0,y1,y2],_ =>
   have g0:DataW.trod enc Tryz.prog w 0 (fun _=>true) true n' 24 (([c0,c1,c2,c3,c4,c5,c6,c7,c8].drop 0).take (Tryz.prog.cellsOf 24))=[y0,y1,y2][0]?:=hg 0 _ rfl
   have g1:DataW.trod enc Tryz.prog w 0 (fun _=>true) true n' 25 (([c0,c1,c2,c3,c4,c5,c6,c7,c8].drop 7).take (Tryz.prog.cellsOf 25))=[y0,y1,y2][1]?:=hg 1 _ rfl
   have g2:DataW.trod enc Tryz.prog w 0 (fun _=>true) true n' 26 (([c0,c1,c2,c3,c4,c5,c6,c7,c8].drop 8).take (Tryz.prog.cellsOf 26))=[y0,y1,y2][2]?:=hg 2 _ rfl
   rw[show Tryz.prog.cellsOf 24=7 by kernel_rfl]at g0
   rw[show Tryz.prog.cellsOf 25=1 by kernel_rfl]at g1
   rw[show Tryz.prog.cellsOf 26=1 by kernel_rfl]at g2
   have hyx2:d=.agg [y0.1,y1.1,y2.1]:=by
    simp only[Prod.mk.injEq]at hyx
    simpa using hyx.1
   subst hyx2
   obtain⟨c,rv,rs,hcs,hw,hr,hrl⟩:=CA (cs:=[c0,c1,c2,c3,c4,c5,c6]) rfl (y:=y0) (by simpa using g0) (Plc.fits_struct Tryz.underlying28 hf (j:=0) rfl rfl)
   obtain⟨ps,h1,-,h3⟩:=gb (α:=ByteArray) (by':=16) (sz:=1) Tryz.underlying25 (by kernel_rfl) (by kernel_rfl) (by decide) (by decide) (fun z=>[.string z]) (fun _=>rfl) (fun _=>True) (fun cs n y hl hy _=>by
    match cs,hl with
    | [d0],_ =>
     obtain⟨z,e,-,-⟩:=DataW.trod_string Tryz.underlying9 hy
     simp at e
     exact⟨z,by rw[e],trivial⟩) (show DataW.trod enc Tryz.prog w 0 (fun _=>true) true n' 25 [c7]=some y1 by simpa using g1) (Plc.fits_struct Tryz.underlying28 hf (j:=1) rfl rfl)
   obtain⟨tl,t1,t2,t3⟩:=gb (α:=Value×List (Int×List Int×Value)) (by':=24) (sz:=1) Tryz.underlying26 (by kernel_rfl) (by kernel_rfl) (by decide) (by decide) (fun z=>[z.1]) (fun _=>rfl) (DO w w.heap.size) (fun cs n y hl hy hfy=>by
    match cs,hl with
    | [d0],_ =>
     obtain⟨xs,hxs⟩:=AG hy hfy
     exact⟨(d0,xs),rfl,hxs⟩) (show DataW.trod enc Tryz.prog w 0 (fun _=>true) true n' 26 [c8]=some y2 by simpa using g2) (Plc.fits_struct Tryz.underlying28 hf (j:=2) rfl rfl)
   simp only[List.cons.injEq,and_true]at hcs
   obtain⟨rfl,rfl,rfl,rfl,rfl,rfl,rfl⟩:=hcs
   refine⟨⟨c,c6,rs,c7,ps,c8,tl⟩,rfl,⟨hr,by unfold reachBytes at hrl;dsimp only;omega⟩,⟨by rw[<-ni];exact h1,by unfold reachBytes at h3;dsimp only;omega⟩,⟨by rw[<-ni];exact t1,by unfold reachBytes at t3;dsimp only;omega⟩,t2,hw⟩
end
end
section
variable {w:World}{Cs:List aw}
def mY(jl:List (Int×List Int×Value)):List aw:=jl.map fun j=>cI j.2.2 j.2.1
theorem kx{P:Program}(t ty e:TypeId)(i:TypeInfo)(z:Value)(sz bytes:Nat)(ht:P.underlying t=some (.slice e))(hi:P.info? e=some i)(hz:i.zero=some z)(hsize:i.size=sz)(hby:i.bytes=bytes)(hzs:z.cells.size=sz)(hsz:0<sz)
  (w:World) (B:Nat) (v:Value) (m:Nat) (vs:List Value) (hr:ct w B v m sz vs) (h1:∀ u∈vs,u.oneCell'=true) (hbytes:m*bytes<=140737488355328) :
  ∃ v' w',(Builtin.append_ #[t,t] ty #[.slice none 0 0,v]).run P w=.ok v' w'/\aD w' e sz v' m vs/\w.grownBy w' none/\(∀ x∈bR v',w.heap.size<=x):=by
 obtain⟨hl,a,c,rfl,hc,hcm,h⟩:=hr
 by_cases h0:m=0
 ·subst h0
  obtain rfl:vs=[]:=List.eq_nil_of_length_eq_zero (by simpa using hl)
  have hsrc:Src P i.size t (.slice a 0 c) 0 [] w:=by
   cases a with
   | none=>exact Src.ofNil w ht c
   | some a=>exact Src.ofSlice w ht a 0 c [] (by simp) (fun j u hu=>by simp at hu) (fun _ hx=>nomatch hx)
  exact⟨_,w,run_append_nothing (P:=P) w t t ty e i ht hi none 0 0 (Nat.le_refl _) _ hsrc,om _ _ _,World.grownBy.refl _ _,by simp[bR]⟩
 ·rcases h with h|⟨b,off,rfl,hb,hcell⟩
  ·exact absurd h h0
  obtain⟨g,cap,w',h2,h3,h4,h5,h6⟩:=run_append_lies (P:=P) w t ty 0 e i z sz bytes ht hi hz hsize hby hzs hsz (.slice none 0 0) 0 [] (World.ownsRow_nil _ _ _ _) ⟨b,off,none⟩ m c vs hl
   (fun j u hu=>by
    have hadd:(⟨b,off,none⟩:Addr).add j=⟨b,off+j,none⟩:=by unfold Addr.add;split<;>simp_all
    rw[hadd];exact hcell j u hu) h1 (by omega) (by omega) (by rw[Nat.zero_add];exact hbytes) (Nat.zero_le _) _ rfl
  rw[Nat.zero_add]at h2 h3
  refine⟨_,w',h2,by rw[List.nil_append]at h3;exact h3,h4,fun x hx=>?_⟩
  simp[bR]at hx
  subst hx
  rcases h5 with h5|h5
  ·simp[Value.ownBlock]at h5
  ·omega
theorem ah.got_row{w0 w':World}{X:List Nat}{e:TypeId}{sz m:Nat}{v':Value}{vs:List Value}(h:ah w0 X Cs w)(hr:aD w' e sz v' m vs)(hg:w.grownBy w' none)(hf:∀ x∈bR v',w.heap.size<=x):ah w0 X (aN e sz v' m vs::Cs) w' :=
 h.more (C3:=[aN e sz v' m vs]) ⟨(aQ.refl _ _).grown hg (fun q hq=>nomatch hq),fun c hc=>by rw[List.mem_singleton.1 hc];exact hr,by
  obtain⟨a,m',c,rfl⟩:=hr.form
  cases a with
  | none=>simp[cu,aN,bR]
  | some a=>simp[cu,aN,bR],fun x hx=>.inr (hf x (by simpa[cu,aN]using hx))⟩
theorem iI{P:Program}{ops:Array Oper}{rest:List Oper}{o:Oper}{a:Act}{Q:Exit->Act->World->Prop}(w:World)(hgd:o.guard=none)(s x:Operand)(t:TypeId)
  (ho:o.op=.call {callee:=.builtin .append,args:=#[s,x],argTypes:=#[t,t]}) (e:TypeId) (i:TypeInfo) (z:Value) (sz bytes:Nat) (ht:P.underlying t=some (.slice e)) (hi:P.info? e=some i) (hz:i.zero=some z) (hsize:i.size=sz) (hby:i.bytes=bytes) (hzs:z.cells.size=sz) (hsz:0<sz)
  (B:Nat) (v:Value) (m:Nat) (vs:List Value) (hs:a.eval s=.slice none 0 0) (hx:a.eval x=v) (hr:ct w B v m sz vs) (h1:∀ u∈vs,u.oneCell'=true) (hbytes:m*bytes<=140737488355328)
  (h:∀ v' w',aD w' e sz v' m vs->w.grownBy w' none->(∀ x∈bR v',w.heap.size<=x)->wpList P ops Q rest (a.put o.dst v') w'):wpList P ops Q (o::rest) a w:=by
 obtain⟨v',w',h2,h3,h4,h5⟩:=kx t o.type e i z sz bytes ht hi hz hsize hby hzs hsz w B v m vs hr h1 hbytes
 exact Lib.wpList_append_run w hgd s x t t ho _ v hs hx v' w' h2 (h v' w' h3 h4 h5)
theorem pz{P:Program}{ops:Array Oper}{o:Oper}{a:Act}{K:Act->World->Prop}{Q:Exit->Act->World->Prop}{E:Prop}(w:World)(hgd:o.guard=none)(s x:Operand)(t:TypeId)
  (ho:o.op=.call {callee:=.builtin .append,args:=#[s,x],argTypes:=#[t,t]}) (e:TypeId) (i:TypeInfo) (z:Value) (sz bytes:Nat) (ht:P.underlying t=some (.slice e)) (hi:P.info? e=some i) (hz:i.zero=some z) (hsize:i.size=sz) (hby:i.bytes=bytes) (hzs:z.cells.size=sz) (hsz:0<sz)
  (B:Nat) (v:Value) (m:Nat) (vs:List Value) (hs:a.eval s=.slice none 0 0) (hx:a.eval x=v) (hr:ct w B v m sz vs) (h1:∀ u∈vs,u.oneCell'=true) (hbytes:m*bytes<=140737488355328)
  (h:∀ v' w',aD w' e sz v' m vs->w.grownBy w' none->(∀ x∈bR v',w.heap.size<=x)->K (a.put o.dst v') w'):if Region.wanted o (yielded ops a.tmps)=true then Oper.wp P o a w K Q else E:=by
 have hw:Region.wanted o (yielded ops a.tmps)=true:=by simp[Region.wanted,hgd]
 rw[if_pos hw]
 obtain⟨v',w',h2,h3,h4,h5⟩:=kx t o.type e i z sz bytes ht hi hz hsize hby hzs hsz w B v m vs hr h1 hbytes
 exact Lib.wp_append_run w s x t t ho _ v hs hx v' w' h2 (h v' w' h3 h4 h5)
end
def fm(np:Nat)(j:Int×List Int×Value):Bool:=decide (0<=j.1/\j.1<np/\j.2.1.length<=4)
def ki(np:Nat)(l:List (Int×List Int×Value)):Bool:=decide (l.length<=32)&&l.all (fm np)
def fl(progs:List ByteArray)(tl:List (Value×List (Int×List Int×Value))):Bool:=decide (tl.length<=8/\progs.length<=16)&&progs.all (fun p=>decide (p.size<=512))&&tl.all (fun t=>ki progs.length t.2)
theorem vB{progs:List ByteArray}{tl:List (Value×List (Int×List Int×Value))}(h:¬(tl.length<=8/\progs.length<=16)):fl progs tl=false:=by
 unfold fl
 rw[decide_eq_false h]
 rfl
theorem vA{progs:List ByteArray}{tl:List (Value×List (Int×List Int×Value))}{k:Nat}{p:ByteArray}(hp:progs[k]?=some p)(h:512<p.size):fl progs tl=false:=by
 cases hb:fl progs tl with
 | false=>rfl
 | true =>
  unfold fl at hb
  simp only[Bool.and_eq_true,List.all_eq_true,decide_eq_true_eq]at hb
  have:=hb.1.2 p (List.mem_of_getElem? hp)
  omega
theorem zD{progs:List ByteArray}{tl:List (Value×List (Int×List Int×Value))}{k:Nat}{t:Value×List (Int×List Int×Value)}(ht:tl[k]?=some t)(h:32<t.2.length):fl progs tl=false:=by
 cases hb:fl progs tl with
 | false=>rfl
 | true =>
  unfold fl ki at hb
  simp only[Bool.and_eq_true,List.all_eq_true,decide_eq_true_eq]at hb
  have:=(hb.2 t (List.mem_of_getElem? ht)).1
  omega
theorem zE{progs:List ByteArray}{tl:List (Value×List (Int×List Int×Value))}{k q:Nat}{t:Value×List (Int×List Int×Value)}{j:Int×List Int×Value}(ht:tl[k]?=some t)(hj:t.2[q]?=some j)(h:fm progs.length j=false):fl progs tl=false:=by
 cases hb:fl progs tl with
 | false=>rfl
 | true =>
  unfold fl ki at hb
  simp only[Bool.and_eq_true,List.all_eq_true,decide_eq_true_eq]at hb
  have:=(hb.2 t (List.mem_of_getElem? ht)).2 j (List.mem_of_getElem? hj)
  rw[h]at this
  simp at this
theorem zF{progs:List ByteArray}{tl:List (Value×List (Int×List Int×Value))}(h:tl.length<=8/\progs.length<=16)(h2:∀ (k:Nat) (p:ByteArray),progs[k]?=some p->p.size<=512)(h3:∀ (k:Nat) (t:Value×List (Int×List Int×Value)),tl[k]?=some t->t.2.length<=32/\∀ (q:Nat) (j:Int×List Int×Value),t.2[q]?=some j->fm progs.length j=true):fl progs tl=true:=by
 unfold fl ki
 simp only[Bool.and_eq_true,List.all_eq_true,decide_eq_true_eq]
 refine⟨⟨h,fun p hp=>?_⟩,fun t ht=>?_⟩
 ·obtain⟨i,hi,rfl⟩:=List.getElem_of_mem hp
  exact h2 i _ (List.getElem?_eq_getElem hi)
 ·obtain⟨i,hi,rfl⟩:=List.getElem_of_mem ht
  obtain⟨k1,k2⟩:=h3 i _ (List.getElem?_eq_getElem hi)
  refine⟨k1,fun j hj=>?_⟩
  obtain⟨q,hq,rfl⟩:=List.getElem_of_mem hj
  exact k2 q _ (List.getElem?_eq_getElem hq)
theorem CL{progs:List ByteArray}{tl:List (Value×List (Int×List Int×Value))}(h:fl progs tl=true):(tl.length<=8/\progs.length<=16)/\(∀ p∈progs,p.size<=512)/\∀ t∈tl,t.2.length<=32/\∀ j∈t.2,0<=j.1/\j.1<progs.length/\j.2.1.length<=4:=by
 unfold fl ki fm at h
 simp only[Bool.and_eq_true,List.all_eq_true,decide_eq_true_eq]at h
 exact⟨h.1.1,h.1.2,h.2⟩
theorem lm:∀ (l:List (Int×List Int×Value)) (k:Nat) (j:Int×List Int×Value),l[k]?=some j->(gN l)[k*2]?=some (.int .i64 j.1)/\(gN l)[k*2+1]?=some j.2.2
 | [],k,j,h=>by simp at h
 | x::l,0,j,h=>by
  simp at h
  subst h
  exact⟨rfl,rfl⟩
 | x::l,k+1,j,h=>by
  have ih:=lm l k j (by simpa using h)
  have e:gN (x::l)=.int .i64 x.1::x.2.2::gN l:=rfl
  rw[e,show(k+1)*2=k*2+1+1 by omega]
  exact⟨by simpa using ih.1,by simpa using ih.2⟩
theorem fe{w w':World}{b:Nat}{o:Obj}(h:Below w.heap.size w w')(hc:w.heap[b]?=some o):w'.heap[b]?=some o:=by
 rw[h.block b (af hc)]
 exact hc
def jD(s:cQ):Obj:=.cells #[.int .i64 s.c.raw,.int .i64 s.c.ring,.int .i64 s.c.writes,.int .i64 s.c.stamps,.bool s.c.multi,.int .i64 s.c.tries,s.rv,s.pv,s.tv] 28 (0,0)
theorem may_few(w:World)(s:cQ)(hs:cP w w.heap.size s)(hn:¬(s.tl.length<=8/\s.progs.length<=16)):Calls Tryz.prog 30 #[s.val] w (fun e w'=>e=.returned (.bool (fl s.progs s.tl))/\Below w.heap.size w w'):=by
 rw[vB hn]
 obtain⟨-,pa,pc,hpv,-⟩:=hs.progs.1
 obtain⟨-,ta,tc,htv,-⟩:=hs.thr.1
 obtain⟨c,rv,rs,pv,progs,tv,tl⟩:=s
 dsimp only at hpv htv hn
 subst hpv htv
 unfold cQ.val
 dsimp only
 rcases(show(8:Int)<(tl.length:Int)\/((tl.length:Int)<=8/\(16:Int)<(progs.length:Int)) by omega)with z|⟨z0,z⟩
 ·clear hn hs
  go_enter Tryz.func30,Tryz.ntmps30
  go_wp2
  go_ret
  exact⟨rfl,ai _ _⟩
 ·clear hn hs
  go_enter Tryz.func30,Tryz.ntmps30
  go_wp2
  go_ret
  exact⟨rfl,ai _ _⟩
theorem AT(w:World)(s:cQ)(hs:cP w w.heap.size s)(hn:s.tl.length<=8/\s.progs.length<=16):Calls Tryz.prog 30 #[s.val] w (fun e w'=>e=.returned (.bool (fl s.progs s.tl))/\Below w.heap.size w w'):=by
 obtain⟨hn1,hn2⟩:=hn
 obtain⟨-,pa,pc,hpv,hpc,-,hpr⟩:=hs.progs.1
 obtain⟨-,ta,tc,htv,htc,-,htr⟩:=hs.thr.1
 have hea:=kH hs.each
 have HMP:=kH (fun k p (h1:s.progs[k]?=some p) h2=>vA (tl:=s.tl) h1 h2)
 have HMT:=kH (fun k t (h1:s.tl[k]?=some t) h2=>zD (progs:=s.progs) h1 h2)
 have HMJ:=kH (fun k q t j (h1:s.tl[k]?=some t) (h2:t.2[q]?=some j) h3=>zE (progs:=s.progs) h1 h2 h3)
 have HMA:=kH (fun h2 h3=>zF (progs:=s.progs) (tl:=s.tl) ⟨hn1,hn2⟩ h2 h3)
 obtain⟨c,rv,rs,pv,progs,tv,tl⟩:=s
 dsimp only at hpv htv hn1 hn2 hpr htr hpc htc hea HMP HMT HMJ HMA
 subst hpv htv
 clear hs
 generalize fl progs tl=E at *
 have HPR:=kH hpr
 have HTR:=kH htr
 clear hpr htr
 have hn1':(tl.length:Int)<=8:=by omega
 have hn2':(progs.length:Int)<=16:=by omega
 unfold cQ.val
 dsimp only
 obtain⟨np,hnp⟩:∃ n,progs.length=n:=⟨_,rfl⟩
 obtain⟨nt,hnt⟩:∃ n,tl.length=n:=⟨_,rfl⟩
 rw[hnp]at hpc hn2 hn2' HPR ⊢
 rw[hnt]at htc hn1 hn1' HTR ⊢
 have HNP:=kH hnp
 have HNT:=kH hnt
 clear hnp hnt
 go_enter Tryz.func30,Tryz.ntmps30
 go_wp2
 go_loopg[22] (np+1) (fun n v22 wr=>∃ (k:Nat),k<=np/\v22=.int .i64 k/\n+k=np+1/\(∀ (q:Nat) (p:ByteArray),q<k->progs[q]?=some p->p.size<=512)/\wr.heap[w.heap.size]?=some (jD ⟨c,rv,rs,.slice pa np pc,progs,.slice ta nt tc,tl⟩)/\Below w.heap.size w wr)
 case atStart=>exact⟨0,Nat.zero_le _,rfl,rfl,fun q p hq=>by omega,aj rfl,ai _ _⟩
 case round =>
  obtain⟨k,hk,rfl,hn,hall,hC,bel⟩:=hrel
  have HC:=kH hC
  have q7:=cell_of_row wr w.heap.size 7 _ _ _ hC
  have q8:=cell_of_row wr w.heap.size 8 _ _ _ hC
  simp only[gA,gZ,gS]at q7 q8
  have HN:=kH hn
  have HA:=kH hall
  have hwsz:=af hC
  have hkn:(k:Int)<=(np:Int):=by omega
  clear hn hall hC
  by_cases hlt:k<np
  ·obtain⟨p,hp⟩:∃ p,progs[k]?=some p:=⟨progs[k]'(by have:=HNP.out;omega),List.getElem?_eq_getElem _⟩
   rcases HPR.out with h|⟨b,off,rfl,hbB,hcell⟩
   ·omega
   have hc0:=(bel.cell (p:=⟨b,off+k,none⟩) (by simp;omega)).trans (hcell k (.string p) (by rw[List.getElem?_map,hp];rfl))
   have HMP':=kH (HMP.out k p hp)
   have HA':Hid (p.size<=512->∀ (q:Nat) (p:ByteArray),q<k+1->progs[q]?=some p->p.size<=512):=fun h q p' hq hp'=>by
    by_cases e:q=k
    ·subst e
     rw[hp]at hp'
     injection hp' with hp'
     subst hp'
     exact h
    ·exact HA.out q p' (by omega) hp'
   have hbs:b<wr.heap.size:=by have:=bel.size;omega
   have hlt':(k:Int)<(np:Int):=by omega
   have hpc':(np:Int)<=(pc:Int):=by omega
   clear hcell hp
   by_cases hb:p.size<=512
   ·have hb':(p.size:Int)<=512:=by omega
    go_wp2
    go_roundg (np-k)
    case measure=>have:=HN.out;omega
    case rel=>exact⟨k+1,by omega,by go_num,by omega,HA'.out hb,HC.out,bel⟩
   ·have hb':(512:Int)<(p.size:Int):=by omega
    go_wp2
    go_ret
    exact⟨by rw[HMP'.out (by omega)];rfl,bel⟩
  ·obtain rfl:k=np:=by omega
   go_wp2
   go_loopg[33] (nt+1) (fun n v33 ws=>∃ (i:Nat),i<=nt/\v33=.int .i64 i/\n+i=nt+1/\(∀ (q:Nat) (t:Value×List (Int×List Int×Value)),q<i->tl[q]?=some t->t.2.length<=32/\∀ (q2:Nat) (j:Int×List Int×Value),t.2[q2]?=some j->fm k j=true)/\ws.heap[w.heap.size]?=some (jD ⟨c,rv,rs,.slice pa k pc,progs,.slice ta nt tc,tl⟩)/\Below w.heap.size w ws)
   case atStart=>exact⟨0,Nat.zero_le _,rfl,rfl,fun q t hq=>by omega,HC.out,bel⟩
   case round =>
    obtain⟨i,hi,rfl,hn,hall,hC2,bel2⟩:=hrel
    have HC2:=kH hC2
    have q7':=cell_of_row wr w.heap.size 7 _ _ _ hC2
    have q8':=cell_of_row wr w.heap.size 8 _ _ _ hC2
    simp only[gA,gZ,gS]at q7' q8'
    have HN2:=kH hn
    have HA2:=kH hall
    have hwsz2:=af hC2
    have hin:(i:Int)<=(nt:Int):=by omega
    clear hn hall hC2 q7 q8 hwsz
    by_cases hlt:i<nt
    ·obtain⟨⟨tv',jl⟩,ht⟩:∃ t,tl[i]?=some t:=⟨tl[i]'(by have:=HNT.out;omega),List.getElem?_eq_getElem _⟩
     obtain⟨⟨-,ja,jc,hjv,hjc,-,hjr⟩,hje,-⟩:=hea.out _ (List.mem_of_getElem? ht)
     dsimp only at hjv hjc hjr hje
     subst hjv
     have HMT':=kH (HMT.out i _ ht)
     have HMJ':=kH (fun q j h2 h3=>HMJ.out i q _ j ht h2 h3)
     have HA2':Hid ((jl.length<=32/\∀ (q2:Nat) (j:Int×List Int×Value),jl[q2]?=some j->fm k j=true)->∀ (q:Nat) (t:Value×List (Int×List Int×Value)),q<i+1->tl[q]?=some t->t.2.length<=32/\∀ q2 j,t.2[q2]?=some j->fm k j=true):=fun h q t' hq ht'=>by
      by_cases e:q=i
      ·subst e
       rw[ht]at ht'
       injection ht' with ht'
       subst ht'
       exact h
      ·exact HA2.out q t' (by omega) ht'
     have HJR:=kH hjr
     have HJE:=kH hje
     obtain⟨nj,hnj⟩:∃ n,jl.length=n:=⟨_,rfl⟩
     rw[hnj]at hjc HJR HA2'
     have HNJ:=kH hnj
     dsimp only at HMT'
     rw[hnj]at HMT'
     rcases HTR.out with h|⟨b,off,rfl,hbB,hcell⟩
     ·omega
     have hc0:=(bel2.cell (p:=⟨b,off+i,none⟩) (by simp;omega)).trans (hcell i (.slice ja jl.length jc) (by rw[List.getElem?_map,ht];rfl))
     rw[hnj]at hc0
     have hbs:b<wr.heap.size:=by have:=bel2.size;omega
     have hlt':(i:Int)<(nt:Int):=by omega
     have htc':(nt:Int)<=(tc:Int):=by omega
     clear hcell ht hnj hjr hje
     by_cases h32:nj<=32
     ·have h32':(nj:Int)<=32:=by omega
      go_wp2
      go_loopg[42] (nj+1) (fun n v42 wr=>∃ (q:Nat),q<=nj/\v42=.int .i64 q/\n+q=nj+1/\(∀ (q2:Nat) (j:Int×List Int×Value),q2<q->jl[q2]?=some j->fm k j=true)/\wr.heap[w.heap.size]?=some (jD ⟨c,rv,rs,.slice pa k pc,progs,.slice (some ⟨b,off,none⟩) nt tc,tl⟩)/\Below w.heap.size w wr)
      case atStart=>exact⟨0,Nat.zero_le _,rfl,rfl,fun q j hq=>by omega,HC2.out,bel2⟩
      case round =>
       obtain⟨q,hq,rfl,hn,hall,hC3,bel3⟩:=hrel
       have HC3:=kH hC3
       have q7'':=cell_of_row wr w.heap.size 7 _ _ _ hC3
       have q8'':=cell_of_row wr w.heap.size 8 _ _ _ hC3
       simp only[gA,gZ,gS]at q7'' q8''
       have HN3:=kH hn
       have HA3:=kH hall
       have hwsz3:=af hC3
       have hqn:(q:Int)<=(nj:Int):=by omega
       clear hn hall hC3 q7' q8' hwsz2 hc0
       by_cases hlt2:q<nj
       ·obtain⟨⟨pg,xs,xv⟩,hj⟩:∃ j,jl[q]?=some j:=⟨jl[q]'(by have:=HNJ.out;omega),List.getElem?_eq_getElem _⟩
        obtain⟨-,-,⟨-,xa,xc,hxv,-⟩,-⟩:=HJE.out _ (List.mem_of_getElem? hj)
        dsimp only at hxv
        subst hxv
        obtain⟨jat0,jat1⟩:=lm jl q _ hj
        have HMJ2:=kH (HMJ'.out q _ hj)
        have HA3':Hid (fm k (pg,xs,.slice xa xs.length xc)=true->∀ (q2:Nat) (j:Int×List Int×Value),q2<q+1->jl[q2]?=some j->fm k j=true):=fun h q2 j' hq2 hj'=>by
         by_cases e:q2=q
         ·subst e
          rw[hj]at hj'
          injection hj' with hj'
          subst hj'
          exact h
         ·exact HA3.out q2 j' (by omega) hj'
        have HDJ:=kH (show(0<=pg/\pg<(k:Int)/\xs.length<=4)↔fm k (pg,xs,.slice xa xs.length xc)=true by unfold fm;simp)
        rcases HJR.out with h|⟨b2,off2,rfl,hbB2,hcell2⟩
        ·omega
        have hc1:=(bel3.cell (p:=⟨b2,off2+q*2,none⟩) (by simp;omega)).trans (hcell2 _ _ jat0)
        have hc2:=(bel3.cell (p:=⟨b2,off2+q*2+1,none⟩) (by simp;omega)).trans (hcell2 (q*2+1) _ jat1)
        have hbs2:b2<wr.heap.size:=by have:=bel3.size;omega
        have hlt2':(q:Int)<(nj:Int):=by omega
        have hjc':(nj:Int)<=(jc:Int):=by omega
        obtain⟨xn,hxn⟩:∃ n,xs.length=n:=⟨_,rfl⟩
        have HXN:=kH hxn
        rw[hxn]at hc2 HDJ HA3' HMJ2
        clear hcell2 jat0 jat1 hj hxn
        have HB3:=kH (fun o=>fe (ai wr o) HC3.out)
        have HBEL:=kH (fun o=>bel3.trans ((ai wr o).mono bel3.size))
        rcases(show pg<0\/(0<=pg/\(k:Int)<=pg)\/((0<=pg/\pg<k)/\(4:Int)<xn)\/((0<=pg/\pg<k)/\(xn:Int)<=4) by omega)with z|⟨z0,z⟩|⟨⟨z0,z1⟩,z⟩|⟨⟨z0,z1⟩,z⟩
        ·have HF:Hid (fm k (pg,xs,.slice xa xn xc)=false):=by
          have:=HDJ.out
          cases hb:fm k (pg,xs,.slice xa xn xc)with
          | false=>rfl
          | true=>have:=this.2 hb;omega
         go_wp2
         go_ret
         exact⟨by rw[HMJ2.out (by rw[HNP.out];exact HF.out)];rfl,HBEL.out _⟩
        ·have HF:Hid (fm k (pg,xs,.slice xa xn xc)=false):=by
          have:=HDJ.out
          cases hb:fm k (pg,xs,.slice xa xn xc)with
          | false=>rfl
          | true=>have:=this.2 hb;omega
         have z0':¬pg<0:=by omega
         go_wp2
         go_ret
         exact⟨by rw[HMJ2.out (by rw[HNP.out];exact HF.out)];rfl,HBEL.out _⟩
        ·have HF:Hid (fm k (pg,xs,.slice xa xn xc)=false):=by
          have:=HDJ.out
          cases hb:fm k (pg,xs,.slice xa xn xc)with
          | false=>rfl
          | true=>have:=this.2 hb;omega
         have z0':¬pg<0:=by omega
         go_wp2
         go_ret
         exact⟨by rw[HMJ2.out (by rw[HNP.out];exact HF.out)];rfl,HBEL.out _⟩
        ·have HF:=kH (HDJ.out.1 ⟨z0,z1,by omega⟩)
         have z0':¬pg<0:=by omega
         go_wp2
         go_roundg (nj-q)
         case measure=>have:=HN3.out;omega
         case rel=>exact⟨q+1,by omega,by go_num,by omega,HA3'.out HF.out,HB3.out _,HBEL.out _⟩
       ·obtain rfl:q=nj:=by omega
        have HA4:=kH (HA2'.out ⟨h32,fun q2 j hj=>HA3.out q2 j (by have:=(List.getElem?_eq_some_iff.1 hj).1;have:=HNJ.out;omega) hj⟩)
        go_wp2
        go_roundg (nt-i)
        case measure=>have:=HN2.out;omega
        case rel=>exact⟨i+1,by omega,by go_num,by omega,HA4.out,HC3.out,bel3⟩
     ·have h32':(32:Int)<(nj:Int):=by omega
      go_wp2
      go_ret
      exact⟨by rw[HMT'.out (by omega)];rfl,bel2⟩
    ·obtain rfl:i=nt:=by omega
     have HF:=kH (HMA.out (fun q p hp=>HA.out q p (by have:=(List.getElem?_eq_some_iff.1 hp).1;have:=HNP.out;omega) hp) (fun q t ht=>by rw[HNP.out];exact HA2.out q t (by have:=(List.getElem?_eq_some_iff.1 ht).1;have:=HNT.out;omega) ht))
     go_wp2
     go_ret
     exact⟨by rw[HF.out];rfl,bel2⟩
theorem mK(w:World)(s:cQ)(hs:cP w w.heap.size s):Calls Tryz.prog 30 #[s.val] w (fun e w'=>e=.returned (.bool (fl s.progs s.tl))/\Below w.heap.size w w'):=by
 by_cases hn:s.tl.length<=8/\s.progs.length<=16
 ·exact AT w s hs hn
 ·exact may_few w s hs hn
end Go.Proofs.YtgfogfciobmmpaaGreatDoor
