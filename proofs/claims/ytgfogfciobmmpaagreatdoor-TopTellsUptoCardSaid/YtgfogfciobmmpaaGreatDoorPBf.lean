/- A part of the proof of the law TopTells: QueMachN16 QueNew16 Wrk2 Wrk3 Dov. -/
import Derived.Test.YtgfogfciobmmpaaGreatDoorPAs
import Derived.Test.YtgfogfciobmmpaaGreatDoorPBe
set_option linter.unusedSimpArgs false
set_option linter.unusedVariables false
set_option maxRecDepth 100000
set_option maxHeartbeats 8000000
namespace Go.Proofs.YtgfogfciobmmpaaGreatDoor
namespace Que
open Go.RowKit
structure MS where
 q:QS
 ph:Nat
 x:WantS
def phaseFn (n:Nat):Nat :=
 if n=0 then 151 else if n=1 then 182 else if n=2 then 223 else if n=3 then 236
 else if n=4 then 245 else if n=5 then 237 else if n=6 then 246 else 250
def Rep (w:World) (p:Nat) (m:MS) (F:List Nat):Prop :=
 m.q.ok∧(m.ph=5→1≤m.q.most) ∧
 (m.ph < 8∧F=[p]∧QRep w p m.q (fnV (phaseFn m.ph)) ∨
  8≤m.ph∧∃ c,c≠p∧F=[p,c]∧QRep w p m.q (.func (.func 244) #[] #[.pointer (some ⟨c,0,none⟩)]) ∧
   w.heap[c]?=some (.cells #[.int .i64 m.x.kind,.int .i64 m.x.cell,.int .i64 m.x.value,.int .i64 m.x.code] 109 (0,0)))
def lenM (m:MS) (v:Int):WantS×MS :=
 if m.q.call=5 then (⟨6,0,v,0⟩,⟨{ m.q with l:=v },8,⟨6,0,v,0⟩⟩)
 else if m.q.call=3 then
   (if m.q.most≤u64 v then (⟨6,0,0,2⟩,⟨{ m.q with l:=v },8,⟨6,0,0,2⟩⟩)
    else (putS (m.q.base+(2+behindI m.q.f (u64 v) m.q.most)) m.q.v,⟨{ m.q with l:=v },3,m.x⟩))
 else if v=0∨m.q.most=0 then (⟨6,0,0,1⟩,⟨{ m.q with l:=v },8,⟨6,0,0,1⟩⟩)
 else (readS (m.q.base+(2+behindI m.q.f 0 m.q.most)),⟨{ m.q with l:=v },5,m.x⟩)
def goM (m:MS) (v:Int):WantS×MS :=
 if m.ph=0 then (readS m.q.base,{ m with ph:=1 })
 else if m.ph=1 then (readS (m.q.base+1),{ m with q:={ m.q with f:=v },ph:=2 })
 else if m.ph=2 then lenM m v
 else if m.ph=3 then (putS (m.q.base+1) (wrap64 (m.q.l+1)),{ m with ph:=4 })
 else if m.ph=4 then (⟨6,0,0,0⟩,{ m with ph:=8,x:=⟨6,0,0,0⟩ })
 else if m.ph=5 then (putS m.q.base (behindI m.q.f 1 m.q.most),{ m with q:={ m.q with v:=v },ph:=6 })
 else if m.ph=6 then (putS (m.q.base+1) (wrap64 (m.q.l - 1)),{ m with ph:=7 })
 else if m.ph=7 then (⟨6,0,m.q.v,0⟩,{ m with ph:=8,x:=⟨6,0,m.q.v,0⟩ })
 else (m.x,m)
def outM (m:MS) (v:Int):WantS:=(goM m v).1
def stepM (m:MS) (v:Int):MS:=(goM m v).2
def NextPost (p:Nat) (m:MS) (F:List Nat) (v:Int) (w:World) (e:Ending) (w':World):Prop :=
 e=.returned (outM m v).val∧w.grownBy w' (some p)∧∃ F',Rep w' p (stepM m v) F'∧∀ k∈F',k∈F∨w.heap.size≤k
theorem next_of_step {p:Nat} {m m':MS} {F:List Nat} {v:Int} {x:WantS} {w w':World} {e:Ending} {n:Nat} (h:StepPost p m'.q (fnV n) x w e w') (hg:goM m v=(x,m')) (hok:m'.q.ok)
   (h5:m'.ph=5→1≤m'.q.most) (hph:m'.ph < 8) (hn:n=phaseFn m'.ph) (hF:p∈F):NextPost p m F v w e w':=by
 obtain ⟨h1,h2,h3⟩:=h
 subst hn
 refine ⟨by rw [outM,hg];exact h1,h2,[p],?_,fun k hk=>.inl (by simp at hk;rw [hk];exact hF)⟩
 rw [stepM,hg]
 exact ⟨hok,h5,.inl ⟨hph,rfl,h3⟩⟩
theorem next_of_done {p:Nat} {m m':MS} {F:List Nat} {v:Int} {w w':World} {e:Ending} (hlt:p < w.heap.size) (h:DonePost p m'.q m'.x w e w') (hg:goM m v=(m'.x,m')) (hok:m'.q.ok)
   (hph:m'.ph=8) (hF:p∈F):NextPost p m F v w e w':=by
 obtain ⟨h1,h2,c,h3,h4,h5⟩:=h
 refine ⟨by rw [outM,hg];exact h1,h2,[p,c],?_,fun k hk=>?_⟩
 · rw [stepM,hg]
   show Rep w' p m' _
   exact ⟨hok,fun e=>by omega,.inr ⟨by omega,c,by omega,rfl,h4,h5⟩⟩
 · simp at hk
   rcases hk with rfl | rfl
   · exact .inl hF
   · exact .inr h3
theorem phase_calls (w:World) (p:Nat) (m:MS) (F:List Nat) (v:Int) (h:Rep w p m F) (hph:m.ph < 8) :
   Calls Tryz.prog (phaseFn m.ph) #[.pointer (some ⟨p,0,none⟩),.int .i64 v] w (NextPost p m F v w):=by
 obtain ⟨hok,h5,h⟩:=h
 obtain ⟨_,rfl,hq⟩:=h.resolve_right (fun e=>by omega)
 clear h
 have hF:p∈[p]:=by simp
 have hlt:p < w.heap.size:=(Array.getElem?_eq_some_iff.1 hq).1
 obtain ⟨q,ph,x⟩:=m
 dsimp only at hok h5 hph hq
 rcases (show ph=0∨ph=1∨ph=2∨ph=3∨ph=4∨ph=5∨ph=6∨ph=7 from by omega) with rfl | rfl | rfl | rfl | rfl | rfl | rfl | rfl
 · exact (begin_calls w p q _ v hq hok).mono fun e w' hp=>next_of_step (m':=⟨q,1,x⟩) hp rfl hok (by simp) (by simp) rfl hF
 · exact (tookFirst_calls w p q _ v hq hok).mono fun e w' hp=>next_of_step (m':=⟨{ q with f:=v },2,x⟩) hp rfl hok (by simp) (by simp) rfl hF
 · by_cases hc5:q.call=5
   · exact (tookLength_len w p q _ v hq hok hc5).mono fun e w' hp=>next_of_done (m':=⟨{ q with l:=v },8,⟨6,0,v,0⟩⟩) hlt hp (by show lenM _ _=_;simp [lenM,hc5]) hok rfl hF
   · by_cases hc3:q.call=3
     · by_cases hf:q.most≤u64 v
       · exact (tookLength_full w p q _ v hq hok hc3 hf).mono fun e w' hp=>next_of_done (m':=⟨{ q with l:=v },8,⟨6,0,0,2⟩⟩) hlt hp (by show lenM _ _=_;simp [lenM,hc3,hf]) hok rfl hF
       · have h1:1≤q.most:=by have:=u64_bounds v;omega
         exact (tookLength_put w p q _ v hq hok hc3 (by omega) h1).mono fun e w' hp=>next_of_step (m':=⟨{ q with l:=v },3,x⟩) hp (by show lenM _ _=_;simp [lenM,hc3,hf]) hok (by simp) (by simp) rfl hF
     · by_cases hz:v=0
       · exact (tookLength_zero w p q _ v hq hok hc5 hc3 hz).mono fun e w' hp=>next_of_done (m':=⟨{ q with l:=v },8,⟨6,0,0,1⟩⟩) hlt hp (by show lenM _ _=_;simp [lenM,hc5,hc3,hz]) hok rfl hF
       · by_cases hn:q.most=0
         · exact (tookLength_none w p q _ v hq hok hc5 hc3 hz hn).mono fun e w' hp=>next_of_done (m':=⟨{ q with l:=v },8,⟨6,0,0,1⟩⟩) hlt hp (by show lenM _ _=_;simp [lenM,hc5,hc3,hn]) hok rfl hF
         · have h1:1≤q.most:=by have:=hok.2.2.1;omega
           exact (tookLength_get w p q _ v hq hok hc5 hc3 hz h1).mono fun e w' hp=>next_of_step (m':=⟨{ q with l:=v },5,x⟩) hp (by show lenM _ _=_;simp [lenM,hc5,hc3,hz,hn]) hok (fun _=>h1) (by simp) rfl hF
 · exact (laid_calls w p q _ v hq hok).mono fun e w' hp=>next_of_step (m':=⟨q,4,x⟩) hp rfl hok (by simp) (by simp) rfl hF
 · exact (laid1_calls w p q _ v hq).mono fun e w' hp=>next_of_done (m':=⟨q,8,⟨6,0,0,0⟩⟩) hlt hp rfl hok rfl hF
 · exact (got_calls w p q _ v hq hok (h5 rfl)).mono fun e w' hp=>next_of_step (m':=⟨{ q with v:=v },6,x⟩) hp rfl hok (by simp) (by simp) rfl hF
 · exact (moved_calls w p q _ v hq hok).mono fun e w' hp=>next_of_step (m':=⟨q,7,x⟩) hp rfl hok (by simp) (by simp) rfl hF
 · exact (moved1_calls w p q _ v hq).mono fun e w' hp=>next_of_done (m':=⟨q,8,⟨6,0,q.v,0⟩⟩) hlt hp rfl hok rfl hF
theorem rep_keep {w w':World} {p:Nat} {st:MS} {F:List Nat} (h:Rep w p st F) (hk:∀ q∈F,w'.heap[q]?=w.heap[q]?):Rep w' p st F:=by
 obtain ⟨h1,h2,⟨h3,rfl,h4⟩ | ⟨h3,c,h4,rfl,h5,h6⟩⟩:=h
 · exact ⟨h1,h2,.inl ⟨h3,rfl,(hk p (by simp)).trans h4⟩⟩
 · exact ⟨h1,h2,.inr ⟨h3,c,h4,rfl,(hk p (by simp)).trans h5,(hk c (by simp)).trans h6⟩⟩
theorem rep_mem {w:World} {p:Nat} {st:MS} {F:List Nat} (h:Rep w p st F):p∈F∧∀ q∈F,q < w.heap.size:=by
 obtain ⟨h1,h2,⟨h3,rfl,h4⟩ | ⟨h3,c,h4,rfl,h5,h6⟩⟩:=h
 · exact ⟨by simp,by simpa using (Array.getElem?_eq_some_iff.1 h4).1⟩
 · refine ⟨by simp,fun q hq=>?_⟩
   simp at hq
   rcases hq with rfl | rfl
   · exact (Array.getElem?_eq_some_iff.1 h5).1
   · exact (Array.getElem?_eq_some_iff.1 h6).1
theorem next_close {w w1:World} {p g:Nat} {m:MS} {F:List Nat} {v:Int} {o:Obj} {a b c d:Value} (hg:g=w.heap.size) {v1:Value} (h:NextPost p m F v (w.alloc o) (.returned v1) w1) {e:Ending} (he:e=.returned (outM m v).val) (hF:∀ q∈F,q < w.heap.size) :
   NextPost p m F v w e ((((w1.setCell ⟨g,0,none⟩ a).setCell ⟨g,1,none⟩ b).setCell ⟨g,2,none⟩ c).setCell ⟨g,3,none⟩ d):=by
 obtain ⟨-,h2,F',h3,h4⟩:=h
 have hs:w.heap.size+1≤w1.heap.size:=by have:=h2.size;simpa using this
 refine ⟨he,⟨h2.os,h2.tape,h2.output,by simp;omega,fun k hk hne=>?_⟩,F',rep_keep h3 fun q hq=>?_,fun k hk=>?_⟩
 · have e1:k≠g:=by omega
   rw [Below.heap_setCell _ _ _ _ (by simpa using e1),Below.heap_setCell _ _ _ _ (by simpa using e1),Below.heap_setCell _ _ _ _ (by simpa using e1),Below.heap_setCell _ _ _ _ (by simpa using e1),h2.block k (by simp;omega) hne]
   exact Below.heap_alloc _ _ _ hk
 · have e1:q≠g:=by
     rcases h4 q hq with h | h
     · have:=hF q h;omega
     · simp at h;omega
   rw [Below.heap_setCell _ _ _ _ (by simpa using e1),Below.heap_setCell _ _ _ _ (by simpa using e1),Below.heap_setCell _ _ _ _ (by simpa using e1),Below.heap_setCell _ _ _ _ (by simpa using e1)]
 · rcases h4 k hk with h | h
   · exact .inl h
   · right;simp at h;omega
theorem Next_calls (w:World) (p:Nat) (m:MS) (F:List Nat) (v:Int) (hr:Rep w p m F) :
   Calls Tryz.prog 286 #[.pointer (some ⟨p,0,none⟩),.int .i64 v] w (NextPost p m F v w):=by
 have HM:=kH (rep_mem hr)
 have hlt:p < w.heap.size:=HM.out.2 p HM.out.1
 have HR:Hid (Rep (w.alloc (.cells #[.int .i64 0,.int .i64 0,.int .i64 0,.int .i64 0] 109)) p m F):=rep_keep hr fun q hq=>Below.heap_alloc _ _ _ (HM.out.2 q hq)
 have HR0:=kH hr
 obtain ⟨hok,h5,⟨hph,hF,hq⟩ | ⟨h8,c,hne,hF,hq,hc⟩⟩:=hr
 · obtain ⟨⟨c0,c1,c2,c3,c4,c5,c6⟩,⟨f3,f4,f5,f6⟩,-⟩:=box7 hq
   clear hq hF h5
   have hcase:∃ fn,phaseFn m.ph=fn∧(fn=151∨fn=182∨fn=223∨fn=236∨fn=245∨fn=237∨fn=246∨fn=250):=by
     refine ⟨_,rfl,?_⟩
     generalize m.ph=ph at *
     rcases (show ph=0∨ph=1∨ph=2∨ph=3∨ph=4∨ph=5∨ph=6∨ph=7 from by omega) with rfl | rfl | rfl | rfl | rfl | rfl | rfl | rfl <;> simp [phaseFn]
   obtain ⟨fn,hfn,hcase⟩:=hcase
   have HPC:∀ w,Rep w p m F→Calls Tryz.prog fn #[.pointer (some ⟨p,0,none⟩),.int .i64 v] w (NextPost p m F v w):=fun w h=>by rw [← hfn];exact phase_calls w p m F v h hph
   have HPC':=kH HPC
   unfold fnV at c4
   rw [hfn] at c4
   clear hfn HPC hph
   rcases hcase with rfl | rfl | rfl | rfl | rfl | rfl | rfl | rfl
   all_goals
     go_enter Tryz.func286,Tryz.ntmps286
     go_wp2_with fail
     refine (HPC'.out _ HR.out).mono ?_
     rintro e w1 ⟨rfl,post⟩
     have hn:NextPost p m F v (w.alloc (.cells #[.int .i64 0,.int .i64 0,.int .i64 0,.int .i64 0] 109)) (.returned (outM m v).val) w1:=⟨rfl,post⟩
     have HN:Hid (NextPost p m F v (w.alloc (.cells #[.int .i64 0,.int .i64 0,.int .i64 0,.int .i64 0] 109)) (.returned (outM m v).val) w1):=hn
     have hg1:=box_grown post.1 (heap_new (n:=w.heap.size) (by simp)) (by omega)
     obtain ⟨⟨d0,d1,d2,d3⟩,⟨g0,g1,g2,g3⟩,hz⟩:=box4 hg1
     clear post hn
     simp only [WantS.val]
     go_wp2
     exact bodyPost_ret (results_cell_row rfl _ _ _ _ _ _ _ rfl (heap_set (heap_set (heap_set (heap_set hg1)))) Tryz.underlying109 rfl infoWant) rfl (next_close rfl HN.out rfl HM.out.2)
 · obtain ⟨⟨c0,c1,c2,c3,c4,c5,c6⟩,⟨f3,f4,f5,f6⟩,-⟩:=box7 hq
   have HC:=kH hc
   have hgo:goM m v=(m.x,m):=by
     unfold goM
     rw [if_neg (by omega),if_neg (by omega),if_neg (by omega),if_neg (by omega),if_neg (by omega),if_neg (by omega),if_neg (by omega),if_neg (by omega)]
   have HG:=kH hgo
   clear hq hF h5 hc hgo hok
   go_enter Tryz.func286,Tryz.ntmps286
   go_wp2_with fail
   refine (done1_calls _ c m.x _ _ (kO HC.out)).mono ?_
   rintro e w1 ⟨rfl,hb1⟩
   have hg1:=box_keep hb1 (heap_new (n:=w.heap.size) (by simp))
   obtain ⟨⟨d0,d1,d2,d3⟩,⟨g0,g1,g2,g3⟩,hz⟩:=box4 hg1
   have hn:NextPost p m F v (w.alloc (.cells #[.int .i64 0,.int .i64 0,.int .i64 0,.int .i64 0] 109)) (.returned (outM m v).val) w1 :=
     ⟨rfl,⟨hb1.os,hb1.tape,hb1.output,hb1.size,fun k hk _=>hb1.block k hk⟩,F,by rw [stepM,HG.out];exact rep_keep HR.out fun q hq=>hb1.block q (by have:=HM.out.2 q hq;simp;omega),fun k hk=>.inl hk⟩
   have HN:Hid (NextPost p m F v (w.alloc (.cells #[.int .i64 0,.int .i64 0,.int .i64 0,.int .i64 0] 109)) (.returned (outM m v).val) w1):=hn
   clear hn
   simp only [WantS.val]
   go_wp2
   exact bodyPost_ret (results_cell_row rfl _ _ _ _ _ _ _ rfl (heap_set (heap_set (heap_set (heap_set hg1)))) Tryz.underlying109 rfl infoWant) rfl (next_close rfl HN.out (by rw [outM,HG.out];rfl) HM.out.2)
end Que
namespace Que
open Go.RowKit
def arityI (c:Int):Int:=if c=3 then 1 else if c=2∨c=5 then 0 else -1
theorem arity_calls (c:Int) (w:World):Calls Tryz.prog 150 #[.int .i64 c] w (Just (.int .i64 (arityI c)) w):=by
 rcases (show c=3∨c=2∨c=5∨(c≠3∧c≠2∧c≠5) from by omega) with rfl | rfl | rfl | ⟨h1,h2,h3⟩
 · go_enter Tryz.func150,Tryz.ntmps150
   go_wp2
   go_ret
   exact ⟨rfl,rfl⟩
 · go_enter Tryz.func150,Tryz.ntmps150
   go_wp2
   go_ret
   exact ⟨rfl,rfl⟩
 · go_enter Tryz.func150,Tryz.ntmps150
   go_wp2
   go_ret
   exact ⟨rfl,rfl⟩
 · have e:arityI c = -1:=by simp [arityI,h1,h2,h3]
   rw [e]
   have h1':(c == 3)=false:=by simpa using h1
   have h2':(c == 2)=false:=by simpa using h2
   have h3':(c == 5)=false:=by simpa using h3
   clear h1 h2 h3 e
   go_enter Tryz.func150,Tryz.ntmps150
   go_wp2
   go_ret
   exact ⟨rfl,rfl⟩
def initM (base most call:Int) (xs:List Int):MS:=⟨⟨base,most,call,xs.getD 0 0,0,0⟩,0,w0⟩
def NewPost (m:MS) (w:World) (e:Ending) (w':World):Prop :=
 e=.returned (.tuple #[.pointer (some ⟨w.heap.size,0,none⟩),.int .i64 0])∧Below w.heap.size w w'∧∃ F,Rep w' w.heap.size m F∧∀ k∈F,w.heap.size≤k
theorem list_one {xs:List Int} (h:xs.length=1):∃ i,xs=[i]:=by
 match xs,h with
 | [i],_=>exact ⟨i,rfl⟩
theorem arity_cases {call:Int} {n:Nat} (h:arityI call=(n:Int)):call=3∧n=1∨call=2∧n=0∨call=5∧n=0:=by
 unfold arityI at h
 split at h
 · left;omega
 · split at h
   · rename_i h1
     rcases h1 with h1 | h1
     · right;left;omega
     · right;right;omega
   · omega
theorem New_yes (w:World) (B:Nat) (base most call:Int) (a:Value) (xs:List Int) (ha:Reads w B a xs) (hB:B≤w.heap.size) (hyes:takesB base most (arityI call) xs.length=true) :
   Calls Tryz.prog 103 #[.int .i64 base,.int .i64 most,.int .i64 call,a] w (NewPost (initM base most call xs) w):=by
 obtain ⟨hxl,hxr,a,ca,rfl,hca,ha⟩:=ha
 obtain ⟨⟨hm0,hm16⟩,hb0,hb1,har⟩:=of_decide_eq_true hyes
 clear hyes
 have hok:Hid (QS.ok ⟨base,most,call,xs.getD 0 0,0,0⟩):=⟨hb0,hb1,hm0,hm16⟩
 rcases arity_cases har with ⟨rfl,hl⟩ | ⟨rfl,hl⟩ | ⟨rfl,hl⟩
 · obtain ⟨i,rfl⟩:=list_one hl
   rcases ha with h | ⟨b,off,rfl,hBb,hcell⟩
   · cases h
   have c0:=hcell 0 (by simp)
   simp at c0
   have hbs:b < w.heap.size:=by omega
   have hbne:b≠w.heap.size:=by omega
   clear hcell hl har hxr
   go_enter Tryz.func103,Tryz.ntmps103
   go_wp2_with (go_at_call 150;refine (arity_calls _ _).mono ?_;rintro e w' ⟨rfl,rfl⟩;simp only [show arityI 3=1 from rfl])
   go_ret2
   exact ⟨rfl,below_alloc _ _,_,⟨hok.out,(fun e=>by cases e),.inl ⟨(show (0:Nat) < 8 by decide),rfl,Go.heap_alloc_new _ _⟩⟩,by simp⟩
 all_goals
   obtain rfl:xs=[]:=List.eq_nil_of_length_eq_zero hl
   clear ha har hxr hl
   go_enter Tryz.func103,Tryz.ntmps103
   go_wp2_with (go_at_call 150;refine (arity_calls _ _).mono ?_;rintro e w' ⟨rfl,rfl⟩;simp only [show arityI 2=0 from rfl,show arityI 5=0 from rfl])
   go_ret2
   exact ⟨rfl,below_alloc _ _,_,⟨hok.out,(fun e=>by cases e),.inl ⟨(show (0:Nat) < 8 by decide),rfl,Go.heap_alloc_new _ _⟩⟩,by simp⟩
end Que
section
open Go.RowKit
variable {w0:World} {X:List Nat} {Cs:List Comp} {w:World} {x:Nat} {k:PCfg} {f:PF} {st cs ts:List Int} {lv:Value}
theorem below_of2 (w:World) (a b:Obj) (n:Nat):Below w.heap.size w (((w.alloc a).alloc b).drewN n):=(((Below.refl _ _).alloc (Nat.le_refl _) _).alloc (by simp) _).trans ⟨rfl,rfl,rfl,Nat.le_refl _,fun _ _=>rfl⟩
def dvOf:Option Nat→Array Value→Value
 | some n,caps=>.func (.func n) #[] caps
 | none,_=>.nilFunc
def FaultPost (c tk pt:Int) (st cs ts:List Int) (w:World) (e:Ending) (w':World):Prop :=
 Below w.heap.size w w'∧∃ b:Bool,e=.returned (.bool b)∧(b=false→tk≤st.length∧st.length - tk+pt≤32∧(c=26→cs.length≠8)∧(c=27→cs.length≠0)∧(c=29→ts.length≠16))
theorem faulty_prog (hS:Sep w0 X (pC x k f st cs ts Cs) w) (hok:StOk st cs ts) (c o tk pt:Int) (n:Option Nat) (caps:Array Value) (ht:0≤tk∧tk≤1000) (hp:0≤pt∧pt≤1000) :
   Calls Tryz.prog 65 #[.pointer (some ⟨x,12,none⟩),opV c o,.agg #[.int .i64 tk,.int .i64 pt,dvOf n caps]] w (FaultPost c tk pt st cs ts w):=by
 have c16:=hS.cell 16
 have c17:=hS.cell 17
 have c18:=hS.cell 18
 simp only [progA,gA,gZ,gS] at c16 c17 c18
 have hlt:=heap_lt hS.h0
 obtain ⟨a1,p1,hv1,hn1,-⟩:=(hS.h1:RowAt w 2 1 f.sv st.length (ints st)).slice
 obtain ⟨a2,p2,hv2,hn2,-⟩:=(hS.h2:RowAt w 2 1 f.cv cs.length (ints cs)).slice
 obtain ⟨a3,p3,hv3,hn3,-⟩:=(hS.h3:RowAt w 2 1 f.tv ts.length (ints ts)).slice
 rw [hv1] at c16
 rw [hv2] at c17
 rw [hv3] at c18
 have h1:=hok.stl
 have h2:=hok.csl
 have h3:=hok.tsl
 clear hS hok hv1 hv2 hv3 hn1 hn2 hn3
 obtain ⟨ht0,ht1⟩:=ht
 obtain ⟨hp0,hp1⟩:=hp
 unfold opV FaultPost
 have hD:∃ v,dvOf n caps=v∧(v=.nilFunc∨∃ m,v=.func (.func m) #[] caps):=⟨_,rfl,by cases n with | none=>exact .inl rfl | some m=>exact .inr ⟨m,rfl⟩⟩
 obtain ⟨dv,hdv,hdc⟩:=hD
 rw [hdv]
 clear hdv
 generalize st.length=n1 at *
 generalize cs.length=n2 at *
 generalize ts.length=n3 at *
 have hw1:IntKind.i64.wrap ((n1:Int) - tk)=(n1:Int) - tk:=IntWalk.i64_in _ (by omega)
 have HW1:=kH hw1
 clear hw1
 rcases (show (n1:Int) < tk∨(tk≤(n1:Int)∧32 < (n1:Int) - tk+pt)∨(tk≤(n1:Int)∧(n1:Int) - tk+pt≤32) by omega) with hl | ⟨hl,hr⟩ | ⟨hl,hr⟩
 · have hl2:(n1:Int) - tk < 0:=by omega
   have hw1:=HW1.out
   go_enter Tryz.func65,Tryz.ntmps65
   go_wp2_with fail
   go_quiet (fail)
   go_wp2
   go_ret
   exact ⟨below_of2 _ _ _ _,_,rfl,fun hb=>by simp at hb⟩
 · have hl2:¬ (n1:Int) - tk < 0:=by omega
   have hw1:=HW1.out
   go_enter Tryz.func65,Tryz.ntmps65
   go_wp2_with fail
   go_quiet (fail)
   go_wp2
   go_ret
   exact ⟨below_of2 _ _ _ _,_,rfl,fun hb=>by simp at hb⟩
 · have hl2:¬ (n1:Int) - tk < 0:=by omega
   have hr2:¬ 32 < (n1:Int) - tk+pt:=by omega
   have hw1:=HW1.out
   rcases (show c=26∨c=27∨c=29∨(c≠26∧c≠27∧c≠29) by omega) with rfl | rfl | rfl | ⟨q1,q2,q3⟩
   · go_enter Tryz.func65,Tryz.ntmps65
     go_wp2_with fail
     go_quiet (fail)
     go_wp2
     go_ret
     exact ⟨below_of2 _ _ _ _,_,rfl,fun hb=>⟨hl,hr,fun h=>by first | omega | (simp at hb;omega),fun h=>by first | omega | (simp at hb;omega),fun h=>by first | omega | (simp at hb;omega)⟩⟩
   · go_enter Tryz.func65,Tryz.ntmps65
     go_wp2_with fail
     go_quiet (fail)
     go_wp2
     go_ret
     exact ⟨below_of2 _ _ _ _,_,rfl,fun hb=>⟨hl,hr,fun h=>by first | omega | (simp at hb;omega),fun h=>by first | omega | (simp at hb;omega),fun h=>by first | omega | (simp at hb;omega)⟩⟩
   · go_enter Tryz.func65,Tryz.ntmps65
     go_wp2_with fail
     go_quiet (fail)
     go_wp2
     go_ret
     exact ⟨below_of2 _ _ _ _,_,rfl,fun hb=>⟨hl,hr,fun h=>by first | omega | (simp at hb;omega),fun h=>by first | omega | (simp at hb;omega),fun h=>by first | omega | (simp at hb;omega)⟩⟩
   · have e1:(c == 26)=false:=beq_eq_false_iff_ne.2 q1
     have e2:(c == 27)=false:=beq_eq_false_iff_ne.2 q2
     have e3:(c == 29)=false:=beq_eq_false_iff_ne.2 q3
     go_enter Tryz.func65,Tryz.ntmps65
     go_wp2_with fail
     go_quiet (fail)
     go_wp2
     go_ret
     exact ⟨below_of2 _ _ _ _,_,rfl,fun hb=>⟨hl,hr,fun h=>absurd h q1,fun h=>absurd h q2,fun h=>absurd h q3⟩⟩
end
section
open Go.RowKit
variable {w0:World} {X:List Nat} {Cs:List Comp} {w:World} {x:Nat} {k:PCfg} {f:PF} {st cs ts:List Int} {lv:Value}
def tkI (c:Nat):Nat:=[0,0,0,0,1,1,2,2,2,2,2,2,2,2,2,2,1,2,2,2,2,2,2,1,0,1,0,0,0,1,0,1,2].getD c 0
def ptI (c:Nat):Nat:=[0,1,1,1,2,0,2,3,1,1,1,1,1,1,1,1,1,1,1,1,1,1,1,1,0,0,0,0,1,0,0,1,0].getD c 0
def dvL (b0 b1 b2 b3 b4 b5 b6 b7 b8 b9 b10 b11 b12 b13:Nat):List Value:=[.nilFunc,.func (.func 120) #[] #[],.func (.func 120) #[] #[],.func (.func 120) #[] #[],.func (.func 121) #[] #[],.func (.func 122) #[] #[],.func (.func 123) #[] #[],.func (.func 124) #[] #[],.func (.func 180) #[] #[ptr b0],.func (.func 180) #[] #[ptr b1],.func (.func 180) #[] #[ptr b2],.func (.func 180) #[] #[ptr b3],.func (.func 180) #[] #[ptr b4],.func (.func 180) #[] #[ptr b5],.func (.func 180) #[] #[ptr b6],.func (.func 180) #[] #[ptr b7],.func (.func 134) #[] #[],.func (.func 180) #[] #[ptr b8],.func (.func 180) #[] #[ptr b9],.func (.func 180) #[] #[ptr b10],.func (.func 180) #[] #[ptr b11],.func (.func 180) #[] #[ptr b12],.func (.func 180) #[] #[ptr b13],.func (.func 142) #[] #[],.func (.func 143) #[] #[],.func (.func 144) #[] #[],.func (.func 145) #[] #[],.func (.func 146) #[] #[],.func (.func 147) #[] #[],.func (.func 148) #[] #[],.nilFunc,.nilFunc,.nilFunc]
def binC (b0 b1 b2 b3 b4 b5 b6 b7 b8 b9 b10 b11 b12 b13:Nat):List Comp:=[cBlk b13 (funO (.func (.func 141) #[] #[])),cBlk b12 (funO (.func (.func 140) #[] #[])),cBlk b11 (funO (.func (.func 138) #[] #[])),cBlk b10 (funO (.func (.func 137) #[] #[])),cBlk b9 (funO (.func (.func 136) #[] #[])),cBlk b8 (funO (.func (.func 135) #[] #[])),cBlk b7 (funO (.func (.func 133) #[] #[])),cBlk b6 (funO (.func (.func 132) #[] #[])),cBlk b5 (funO (.func (.func 131) #[] #[])),cBlk b4 (funO (.func (.func 130) #[] #[])),cBlk b3 (funO (.func (.func 129) #[] #[])),cBlk b2 (funO (.func (.func 128) #[] #[])),cBlk b1 (funO (.func (.func 127) #[] #[])),cBlk b0 (funO (.func (.func 126) #[] #[]))]
theorem works_at (b0 b1 b2 b3 b4 b5 b6 b7 b8 b9 b10 b11 b12 b13:Nat):∀ c:Nat,c≤32→(worksL b0 b1 b2 b3 b4 b5 b6 b7 b8 b9 b10 b11 b12 b13)[c * 3]?=some (.int .i64 (tkI c:Nat))∧(worksL b0 b1 b2 b3 b4 b5 b6 b7 b8 b9 b10 b11 b12 b13)[c * 3+1]?=some (.int .i64 (ptI c:Nat))∧(worksL b0 b1 b2 b3 b4 b5 b6 b7 b8 b9 b10 b11 b12 b13)[c * 3+2]?=some ((dvL b0 b1 b2 b3 b4 b5 b6 b7 b8 b9 b10 b11 b12 b13).getD c .nilFunc)
 | 0,_=>⟨rfl,rfl,rfl⟩
 | 1,_=>⟨rfl,rfl,rfl⟩
 | 2,_=>⟨rfl,rfl,rfl⟩
 | 3,_=>⟨rfl,rfl,rfl⟩
 | 4,_=>⟨rfl,rfl,rfl⟩
 | 5,_=>⟨rfl,rfl,rfl⟩
 | 6,_=>⟨rfl,rfl,rfl⟩
 | 7,_=>⟨rfl,rfl,rfl⟩
 | 8,_=>⟨rfl,rfl,rfl⟩
 | 9,_=>⟨rfl,rfl,rfl⟩
 | 10,_=>⟨rfl,rfl,rfl⟩
 | 11,_=>⟨rfl,rfl,rfl⟩
 | 12,_=>⟨rfl,rfl,rfl⟩
 | 13,_=>⟨rfl,rfl,rfl⟩
 | 14,_=>⟨rfl,rfl,rfl⟩
 | 15,_=>⟨rfl,rfl,rfl⟩
 | 16,_=>⟨rfl,rfl,rfl⟩
 | 17,_=>⟨rfl,rfl,rfl⟩
 | 18,_=>⟨rfl,rfl,rfl⟩
 | 19,_=>⟨rfl,rfl,rfl⟩
 | 20,_=>⟨rfl,rfl,rfl⟩
 | 21,_=>⟨rfl,rfl,rfl⟩
 | 22,_=>⟨rfl,rfl,rfl⟩
 | 23,_=>⟨rfl,rfl,rfl⟩
 | 24,_=>⟨rfl,rfl,rfl⟩
 | 25,_=>⟨rfl,rfl,rfl⟩
 | 26,_=>⟨rfl,rfl,rfl⟩
 | 27,_=>⟨rfl,rfl,rfl⟩
 | 28,_=>⟨rfl,rfl,rfl⟩
 | 29,_=>⟨rfl,rfl,rfl⟩
 | 30,_=>⟨rfl,rfl,rfl⟩
 | 31,_=>⟨rfl,rfl,rfl⟩
 | 32,_=>⟨rfl,rfl,rfl⟩
 | n+33,h=>by omega
theorem results_two {P:Program} {fn:Func} {p u:Tmp} {ty:TypeId} (h:fn.results=#[.cell p ty,.tmp u]) (tmps:Array Value) (w:World) (g:Nat) (t:TypeId) (cs:Array Value) (fr:Nat×Nat) (d:TypeDesc)
   (hp:tmps.getD p undef=.pointer (some ⟨g,0,none⟩)) (hg:w.heap[g]?=some (.cells cs t fr))
   (hu:P.underlying ty=some d) (hd:(match d with | .struct _ | .array _ _=>true | _=>false)=true) (hi:(P.info? ty).map (·.size)=some cs.size) :
   (results fn tmps).run P w=.ok (.tuple #[.agg cs,tmps.getD u undef]) w:=by
 have e:(results fn tmps).run P w=((asAddr (tmps.getD p undef)).run P w).andThen fun a w₁=>((loadVar ty a).run P w₁).andThen fun x w₂=>.ok (.tuple #[x,tmps.getD u undef]) w₂:=by
   simp only [results,h]
   simp [Sem.run_bind,Result.andThen]
 rw [e,hp]
 simp [asAddr,run_loadVar_row w g t ty cs fr d hg hu hd hi,Result.andThen]
theorem dv_at:∀ c:Nat,c≤32→(∀ b0 b1 b2 b3 b4 b5 b6 b7 b8 b9 b10 b11 b12 b13,(dvL b0 b1 b2 b3 b4 b5 b6 b7 b8 b9 b10 b11 b12 b13).getD c .nilFunc=.nilFunc)∨(∃ n:Nat,∀ b0 b1 b2 b3 b4 b5 b6 b7 b8 b9 b10 b11 b12 b13,(dvL b0 b1 b2 b3 b4 b5 b6 b7 b8 b9 b10 b11 b12 b13).getD c .nilFunc=.func (.func n) #[] #[]) ∨
   ∃ sel:Nat→Nat→Nat→Nat→Nat→Nat→Nat→Nat→Nat→Nat→Nat→Nat→Nat→Nat→Nat,∀ b0 b1 b2 b3 b4 b5 b6 b7 b8 b9 b10 b11 b12 b13,(dvL b0 b1 b2 b3 b4 b5 b6 b7 b8 b9 b10 b11 b12 b13).getD c .nilFunc=.func (.func 180) #[] #[ptr (sel b0 b1 b2 b3 b4 b5 b6 b7 b8 b9 b10 b11 b12 b13)]
 | 0,_=>.inl fun _ _ _ _ _ _ _ _ _ _ _ _ _ _=>rfl
 | 1,_=>.inr (.inl ⟨_,fun _ _ _ _ _ _ _ _ _ _ _ _ _ _=>rfl⟩)
 | 2,_=>.inr (.inl ⟨_,fun _ _ _ _ _ _ _ _ _ _ _ _ _ _=>rfl⟩)
 | 3,_=>.inr (.inl ⟨_,fun _ _ _ _ _ _ _ _ _ _ _ _ _ _=>rfl⟩)
 | 4,_=>.inr (.inl ⟨_,fun _ _ _ _ _ _ _ _ _ _ _ _ _ _=>rfl⟩)
 | 5,_=>.inr (.inl ⟨_,fun _ _ _ _ _ _ _ _ _ _ _ _ _ _=>rfl⟩)
 | 6,_=>.inr (.inl ⟨_,fun _ _ _ _ _ _ _ _ _ _ _ _ _ _=>rfl⟩)
 | 7,_=>.inr (.inl ⟨_,fun _ _ _ _ _ _ _ _ _ _ _ _ _ _=>rfl⟩)
 | 8,_=>.inr (.inr ⟨fun b0 b1 b2 b3 b4 b5 b6 b7 b8 b9 b10 b11 b12 b13=>b0,fun _ _ _ _ _ _ _ _ _ _ _ _ _ _=>rfl⟩)
 | 9,_=>.inr (.inr ⟨fun b0 b1 b2 b3 b4 b5 b6 b7 b8 b9 b10 b11 b12 b13=>b1,fun _ _ _ _ _ _ _ _ _ _ _ _ _ _=>rfl⟩)
 | 10,_=>.inr (.inr ⟨fun b0 b1 b2 b3 b4 b5 b6 b7 b8 b9 b10 b11 b12 b13=>b2,fun _ _ _ _ _ _ _ _ _ _ _ _ _ _=>rfl⟩)
 | 11,_=>.inr (.inr ⟨fun b0 b1 b2 b3 b4 b5 b6 b7 b8 b9 b10 b11 b12 b13=>b3,fun _ _ _ _ _ _ _ _ _ _ _ _ _ _=>rfl⟩)
 | 12,_=>.inr (.inr ⟨fun b0 b1 b2 b3 b4 b5 b6 b7 b8 b9 b10 b11 b12 b13=>b4,fun _ _ _ _ _ _ _ _ _ _ _ _ _ _=>rfl⟩)
 | 13,_=>.inr (.inr ⟨fun b0 b1 b2 b3 b4 b5 b6 b7 b8 b9 b10 b11 b12 b13=>b5,fun _ _ _ _ _ _ _ _ _ _ _ _ _ _=>rfl⟩)
 | 14,_=>.inr (.inr ⟨fun b0 b1 b2 b3 b4 b5 b6 b7 b8 b9 b10 b11 b12 b13=>b6,fun _ _ _ _ _ _ _ _ _ _ _ _ _ _=>rfl⟩)
 | 15,_=>.inr (.inr ⟨fun b0 b1 b2 b3 b4 b5 b6 b7 b8 b9 b10 b11 b12 b13=>b7,fun _ _ _ _ _ _ _ _ _ _ _ _ _ _=>rfl⟩)
 | 16,_=>.inr (.inl ⟨_,fun _ _ _ _ _ _ _ _ _ _ _ _ _ _=>rfl⟩)
 | 17,_=>.inr (.inr ⟨fun b0 b1 b2 b3 b4 b5 b6 b7 b8 b9 b10 b11 b12 b13=>b8,fun _ _ _ _ _ _ _ _ _ _ _ _ _ _=>rfl⟩)
 | 18,_=>.inr (.inr ⟨fun b0 b1 b2 b3 b4 b5 b6 b7 b8 b9 b10 b11 b12 b13=>b9,fun _ _ _ _ _ _ _ _ _ _ _ _ _ _=>rfl⟩)
 | 19,_=>.inr (.inr ⟨fun b0 b1 b2 b3 b4 b5 b6 b7 b8 b9 b10 b11 b12 b13=>b10,fun _ _ _ _ _ _ _ _ _ _ _ _ _ _=>rfl⟩)
 | 20,_=>.inr (.inr ⟨fun b0 b1 b2 b3 b4 b5 b6 b7 b8 b9 b10 b11 b12 b13=>b11,fun _ _ _ _ _ _ _ _ _ _ _ _ _ _=>rfl⟩)
 | 21,_=>.inr (.inr ⟨fun b0 b1 b2 b3 b4 b5 b6 b7 b8 b9 b10 b11 b12 b13=>b12,fun _ _ _ _ _ _ _ _ _ _ _ _ _ _=>rfl⟩)
 | 22,_=>.inr (.inr ⟨fun b0 b1 b2 b3 b4 b5 b6 b7 b8 b9 b10 b11 b12 b13=>b13,fun _ _ _ _ _ _ _ _ _ _ _ _ _ _=>rfl⟩)
 | 23,_=>.inr (.inl ⟨_,fun _ _ _ _ _ _ _ _ _ _ _ _ _ _=>rfl⟩)
 | 24,_=>.inr (.inl ⟨_,fun _ _ _ _ _ _ _ _ _ _ _ _ _ _=>rfl⟩)
 | 25,_=>.inr (.inl ⟨_,fun _ _ _ _ _ _ _ _ _ _ _ _ _ _=>rfl⟩)
 | 26,_=>.inr (.inl ⟨_,fun _ _ _ _ _ _ _ _ _ _ _ _ _ _=>rfl⟩)
 | 27,_=>.inr (.inl ⟨_,fun _ _ _ _ _ _ _ _ _ _ _ _ _ _=>rfl⟩)
 | 28,_=>.inr (.inl ⟨_,fun _ _ _ _ _ _ _ _ _ _ _ _ _ _=>rfl⟩)
 | 29,_=>.inr (.inl ⟨_,fun _ _ _ _ _ _ _ _ _ _ _ _ _ _=>rfl⟩)
 | 30,_=>.inl fun _ _ _ _ _ _ _ _ _ _ _ _ _ _=>rfl
 | 31,_=>.inl fun _ _ _ _ _ _ _ _ _ _ _ _ _ _=>rfl
 | 32,_=>.inl fun _ _ _ _ _ _ _ _ _ _ _ _ _ _=>rfl
 | n+33,h=>by omega
theorem work_low (hS:Sep w0 X (pC x k f st cs ts Cs) w) (c:Nat) (hc:c≤32) (o:Int) :
   Calls Tryz.prog 64 #[ptr x,opV c o] w (fun e w'=>∃ b0 b1 b2 b3 b4 b5 b6 b7 b8 b9 b10 b11 b12 b13,e=.returned (.tuple #[.agg #[.int .i64 (tkI c:Nat),.int .i64 (ptI c:Nat),(dvL b0 b1 b2 b3 b4 b5 b6 b7 b8 b9 b10 b11 b12 b13).getD c .nilFunc],.bool true])∧Sep w0 X (pC x k f st cs ts (binC b0 b1 b2 b3 b4 b5 b6 b7 b8 b9 b10 b11 b12 b13++Cs)) w'):=by
 have S1:=(hS.new (opO c o)).new (.cells #[.int .i64 0,.int .i64 0,.nilFunc] 140 (0,0))
 rw [show (w.alloc (opO c o)).heap.size=w.heap.size+1 by simp] at S1
 have HW:=kH (works_calls S1)
 have HWD:=kH (fun q=>works_calls (S1.drewN q))
 have hlt:=heap_lt hS.h0
 clear hS S1
 unfold opV opO ptr at *
 go_enter Tryz.func64,Tryz.ntmps64
 go_wp2_with fail
 have hb0:=cell_of_row ((w.alloc (opO c o)).alloc (.cells #[.int .i64 0,.int .i64 0,.nilFunc] 140 (0,0))) w.heap.size 0 _ _ _ (heap_old_at (heap_new_at (w:=w) (o:=opO c o) rfl))
 simp only [gA,gZ] at hb0
 unfold opO at hb0
 generalize hW1:(w.alloc (.cells #[.int .i64 c,.int .i64 o] 135 (0,0))).alloc (.cells #[.int .i64 0,.int .i64 0,.nilFunc] 140 (0,0))=W1 at *
 have HW1:=kH hW1
 clear hW1
 have HCC:=kH hc
 have hc2:(c:Int) < 33:=by omega
 have hdv:=dv_at c hc
 rcases hdv with hdv | ⟨n,hdv⟩ | ⟨sel,hdv⟩
 all_goals
   have HDV:=kH hdv
   clear hdv
   go_region_with (first | (go_at_call 100;(first | refine HW.out.mono ?_ | refine (HWD.out _).mono ?_);rintro e2 w2 ⟨g,b0,b1,b2,b3,b4,b5,b6,b7,b8,b9,b10,b11,b12,b13,rfl,S2⟩;have hg:=works_at b0 b1 b2 b3 b4 b5 b6 b7 b8 b9 b10 b11 b12 b13 c HCC.out;have q0:=S2.cell (c * 3);have q1:=S2.cell (c * 3+1);have q2:=S2.cell (c * 3+2);simp only [gA,hg.1,hg.2.1,hg.2.2,HDV.out] at q0 q1 q2;have S3:=S2.pull [_,_,_,_,_,_,_,_,_,_,_,_,_,_,_];have r0:=S3.cell 0;have r1:=S3.cell 1;have r2:=S3.cell 2;have s0:=S3.froz 0;have s1:=S3.froz 1;have s2:=S3.froz 2;have t0:=(S2.pull [_,_,_,_,_,_,_,_,_,_,_,_,_,_,_,_]).cell 0;simp only [gA,gZ,gS] at r0 r1 r2 t0;have HS2:=kH S2;clear S2 S3 hg))
   all_goals
     have S3:=(((HS2.out.pull [_,_,_,_,_,_,_,_,_,_,_,_,_,_,_]).set 0 (.int .i64 (tkI c:Nat))).set 1 (.int .i64 (ptI c:Nat))).set 2 ((dvL b0 b1 b2 b3 b4 b5 b6 b7 b8 b9 b10 b11 b12 b13).getD c .nilFunc)
     rw [HDV.out] at S3
     have S4:=S3.drop.drop
     go_wp2
     refine bodyPost_ret (results_two (p:=4) (u:=5) rfl _ _ _ _ _ _ _ rfl S3.h0 Tryz.underlying140 rfl infoWork) rfl ⟨b0,b1,b2,b3,b4,b5,b6,b7,b8,b9,b10,b11,b12,b13,?_,?_⟩
     rotate_left
     · have S5:=(S4.pull [_,_,_,_,_,_,_,_,_,_,_,_,_,_]).drop
       exact S5.turn [_,_,_,_,_,_,_,_,_,_,_,_,_,_] [_,_,_,_,_]
     · rw [HDV.out]
       rfl
end
section
open Go.RowKit
variable {w0:World} {X:List Nat} {Cs Cs':List Comp} {w:World} {x:Nat} {k:PCfg} {f:PF} {st cs ts xs:List Int} {lv:Value}
theorem DopPost.perm {e:Ending} {w':World} (h:DopPost w0 X Cs x k f e w') (hp:Cs.Perm Cs'):DopPost w0 X Cs' x k f e w':=by
 obtain ⟨h1,sv,cv,tv,at_,st,cs,ts,hok,hS⟩:=h
 exact ⟨h1,sv,cv,tv,at_,st,cs,ts,hok,hS.perm (((((hp.cons _).cons _).cons _).cons _).cons _)⟩
structure OpOk (c o:Int):Prop where
 code:0≤c∧c≤40
 i64:I64 o
 small:c=28∨32 < c→0≤o∧o≤255
theorem len0 (h:xs.length=0):xs=[]:=List.eq_nil_of_length_eq_zero h
theorem len1 (h:xs.length=1):∃ a,xs=[a]:=by
 match xs,h with
 | [a],_=>exact ⟨a,rfl⟩
theorem len2 (h:xs.length=2):∃ a b,xs=[a,b]:=by
 match xs,h with
 | [a,b],_=>exact ⟨a,b,rfl⟩
def DovCalls (w:World) (dv:Value) (args:Array Value) (R:Ending→World→Prop):Prop:=∃ n caps,dv=.func (.func n) #[] caps∧(∀ (a:Array Value) (W:World),(callFunc n a).run Tryz.prog W=.ok (.enter n a) W)∧Calls Tryz.prog n (args++caps) w R
theorem dov_1 {b0 b1 b2 b3 b4 b5 b6 b7 b8 b9 b10 b11 b12 b13:Nat} {o:Int} (hS:Sep w0 X (pC x k f st cs ts (cI lv xs::(binC b0 b1 b2 b3 b4 b5 b6 b7 b8 b9 b10 b11 b12 b13++Cs))) w) (hok:StOk st cs ts) (ho:OpOk 1 o) (hx:xs.length=tkI 1) (hi:∀ v∈xs,I64 v) (hp:st.length+ptI 1≤32) (hcs:(1:Nat)=26→cs.length≤7) (hcr:(1:Nat)=27→0 < cs.length) (hts:(1:Nat)=29→ts.length≤15) (ha:k.args.length≤4) (hai:∀ v∈k.args,I64 v) :
   DovCalls w ((dvL b0 b1 b2 b3 b4 b5 b6 b7 b8 b9 b10 b11 b12 b13).getD 1 .nilFunc) #[ptr x,opV 1 o,lv] (DopPost w0 X (cI lv xs::(binC b0 b1 b2 b3 b4 b5 b6 b7 b8 b9 b10 b11 b12 b13++Cs)) x k f):=by
 obtain rfl:=len0 hx
 exact ⟨_,_,rfl,fun _ _=>by kernel_rfl,pushes_prog hS hok hp 1 o ho.i64⟩
theorem dov_2 {b0 b1 b2 b3 b4 b5 b6 b7 b8 b9 b10 b11 b12 b13:Nat} {o:Int} (hS:Sep w0 X (pC x k f st cs ts (cI lv xs::(binC b0 b1 b2 b3 b4 b5 b6 b7 b8 b9 b10 b11 b12 b13++Cs))) w) (hok:StOk st cs ts) (ho:OpOk 2 o) (hx:xs.length=tkI 2) (hi:∀ v∈xs,I64 v) (hp:st.length+ptI 2≤32) (hcs:(2:Nat)=26→cs.length≤7) (hcr:(2:Nat)=27→0 < cs.length) (hts:(2:Nat)=29→ts.length≤15) (ha:k.args.length≤4) (hai:∀ v∈k.args,I64 v) :
   DovCalls w ((dvL b0 b1 b2 b3 b4 b5 b6 b7 b8 b9 b10 b11 b12 b13).getD 2 .nilFunc) #[ptr x,opV 2 o,lv] (DopPost w0 X (cI lv xs::(binC b0 b1 b2 b3 b4 b5 b6 b7 b8 b9 b10 b11 b12 b13++Cs)) x k f):=by
 obtain rfl:=len0 hx
 exact ⟨_,_,rfl,fun _ _=>by kernel_rfl,pushes_prog hS hok hp 2 o ho.i64⟩
theorem dov_3 {b0 b1 b2 b3 b4 b5 b6 b7 b8 b9 b10 b11 b12 b13:Nat} {o:Int} (hS:Sep w0 X (pC x k f st cs ts (cI lv xs::(binC b0 b1 b2 b3 b4 b5 b6 b7 b8 b9 b10 b11 b12 b13++Cs))) w) (hok:StOk st cs ts) (ho:OpOk 3 o) (hx:xs.length=tkI 3) (hi:∀ v∈xs,I64 v) (hp:st.length+ptI 3≤32) (hcs:(3:Nat)=26→cs.length≤7) (hcr:(3:Nat)=27→0 < cs.length) (hts:(3:Nat)=29→ts.length≤15) (ha:k.args.length≤4) (hai:∀ v∈k.args,I64 v) :
   DovCalls w ((dvL b0 b1 b2 b3 b4 b5 b6 b7 b8 b9 b10 b11 b12 b13).getD 3 .nilFunc) #[ptr x,opV 3 o,lv] (DopPost w0 X (cI lv xs::(binC b0 b1 b2 b3 b4 b5 b6 b7 b8 b9 b10 b11 b12 b13++Cs)) x k f):=by
 obtain rfl:=len0 hx
 exact ⟨_,_,rfl,fun _ _=>by kernel_rfl,pushes_prog hS hok hp 3 o ho.i64⟩
theorem dov_4 {b0 b1 b2 b3 b4 b5 b6 b7 b8 b9 b10 b11 b12 b13:Nat} {o:Int} (hS:Sep w0 X (pC x k f st cs ts (cI lv xs::(binC b0 b1 b2 b3 b4 b5 b6 b7 b8 b9 b10 b11 b12 b13++Cs))) w) (hok:StOk st cs ts) (ho:OpOk 4 o) (hx:xs.length=tkI 4) (hi:∀ v∈xs,I64 v) (hp:st.length+ptI 4≤32) (hcs:(4:Nat)=26→cs.length≤7) (hcr:(4:Nat)=27→0 < cs.length) (hts:(4:Nat)=29→ts.length≤15) (ha:k.args.length≤4) (hai:∀ v∈k.args,I64 v) :
   DovCalls w ((dvL b0 b1 b2 b3 b4 b5 b6 b7 b8 b9 b10 b11 b12 b13).getD 4 .nilFunc) #[ptr x,opV 4 o,lv] (DopPost w0 X (cI lv xs::(binC b0 b1 b2 b3 b4 b5 b6 b7 b8 b9 b10 b11 b12 b13++Cs)) x k f):=by
 obtain ⟨a,rfl⟩:=len1 hx
 exact ⟨_,_,rfl,fun _ _=>by kernel_rfl,dups_prog hS hok hp 4 o (hi a (by simp))⟩
theorem dov_5 {b0 b1 b2 b3 b4 b5 b6 b7 b8 b9 b10 b11 b12 b13:Nat} {o:Int} (hS:Sep w0 X (pC x k f st cs ts (cI lv xs::(binC b0 b1 b2 b3 b4 b5 b6 b7 b8 b9 b10 b11 b12 b13++Cs))) w) (hok:StOk st cs ts) (ho:OpOk 5 o) (hx:xs.length=tkI 5) (hi:∀ v∈xs,I64 v) (hp:st.length+ptI 5≤32) (hcs:(5:Nat)=26→cs.length≤7) (hcr:(5:Nat)=27→0 < cs.length) (hts:(5:Nat)=29→ts.length≤15) (ha:k.args.length≤4) (hai:∀ v∈k.args,I64 v) :
   DovCalls w ((dvL b0 b1 b2 b3 b4 b5 b6 b7 b8 b9 b10 b11 b12 b13).getD 5 .nilFunc) #[ptr x,opV 5 o,lv] (DopPost w0 X (cI lv xs::(binC b0 b1 b2 b3 b4 b5 b6 b7 b8 b9 b10 b11 b12 b13++Cs)) x k f):=by
 exact ⟨_,_,rfl,fun _ _=>by kernel_rfl,drops_prog hS hok 5 o⟩
theorem dov_6 {b0 b1 b2 b3 b4 b5 b6 b7 b8 b9 b10 b11 b12 b13:Nat} {o:Int} (hS:Sep w0 X (pC x k f st cs ts (cI lv xs::(binC b0 b1 b2 b3 b4 b5 b6 b7 b8 b9 b10 b11 b12 b13++Cs))) w) (hok:StOk st cs ts) (ho:OpOk 6 o) (hx:xs.length=tkI 6) (hi:∀ v∈xs,I64 v) (hp:st.length+ptI 6≤32) (hcs:(6:Nat)=26→cs.length≤7) (hcr:(6:Nat)=27→0 < cs.length) (hts:(6:Nat)=29→ts.length≤15) (ha:k.args.length≤4) (hai:∀ v∈k.args,I64 v) :
   DovCalls w ((dvL b0 b1 b2 b3 b4 b5 b6 b7 b8 b9 b10 b11 b12 b13).getD 6 .nilFunc) #[ptr x,opV 6 o,lv] (DopPost w0 X (cI lv xs::(binC b0 b1 b2 b3 b4 b5 b6 b7 b8 b9 b10 b11 b12 b13++Cs)) x k f):=by
 obtain ⟨a,b,rfl⟩:=len2 hx
 exact ⟨_,_,rfl,fun _ _=>by kernel_rfl,swaps_prog hS hok hp 6 o (hi a (by simp)) (hi b (by simp))⟩
theorem dov_7 {b0 b1 b2 b3 b4 b5 b6 b7 b8 b9 b10 b11 b12 b13:Nat} {o:Int} (hS:Sep w0 X (pC x k f st cs ts (cI lv xs::(binC b0 b1 b2 b3 b4 b5 b6 b7 b8 b9 b10 b11 b12 b13++Cs))) w) (hok:StOk st cs ts) (ho:OpOk 7 o) (hx:xs.length=tkI 7) (hi:∀ v∈xs,I64 v) (hp:st.length+ptI 7≤32) (hcs:(7:Nat)=26→cs.length≤7) (hcr:(7:Nat)=27→0 < cs.length) (hts:(7:Nat)=29→ts.length≤15) (ha:k.args.length≤4) (hai:∀ v∈k.args,I64 v) :
   DovCalls w ((dvL b0 b1 b2 b3 b4 b5 b6 b7 b8 b9 b10 b11 b12 b13).getD 7 .nilFunc) #[ptr x,opV 7 o,lv] (DopPost w0 X (cI lv xs::(binC b0 b1 b2 b3 b4 b5 b6 b7 b8 b9 b10 b11 b12 b13++Cs)) x k f):=by
 obtain ⟨a,b,rfl⟩:=len2 hx
 exact ⟨_,_,rfl,fun _ _=>by kernel_rfl,overs_prog hS hok hp 7 o (hi a (by simp)) (hi b (by simp))⟩
theorem dov_8 {b0 b1 b2 b3 b4 b5 b6 b7 b8 b9 b10 b11 b12 b13:Nat} {o:Int} (hS:Sep w0 X (pC x k f st cs ts (cI lv xs::(binC b0 b1 b2 b3 b4 b5 b6 b7 b8 b9 b10 b11 b12 b13++Cs))) w) (hok:StOk st cs ts) (ho:OpOk 8 o) (hx:xs.length=tkI 8) (hi:∀ v∈xs,I64 v) (hp:st.length+ptI 8≤32) (hcs:(8:Nat)=26→cs.length≤7) (hcr:(8:Nat)=27→0 < cs.length) (hts:(8:Nat)=29→ts.length≤15) (ha:k.args.length≤4) (hai:∀ v∈k.args,I64 v) :
   DovCalls w ((dvL b0 b1 b2 b3 b4 b5 b6 b7 b8 b9 b10 b11 b12 b13).getD 8 .nilFunc) #[ptr x,opV 8 o,lv] (DopPost w0 X (cI lv xs::(binC b0 b1 b2 b3 b4 b5 b6 b7 b8 b9 b10 b11 b12 b13++Cs)) x k f):=by
 obtain ⟨a,b,rfl⟩:=len2 hx
 have S1:=(Sep.pull [_,_,_,_,_,_,_,_,_,_,_,_,_,_,_,_,_,_,_] hS).push [_,_,_,_,_,_]
 exact ⟨_,_,rfl,fun _ _=>by kernel_rfl,(bin_prog add_two S1 hok hp 8 o (hi a (by simp)) (hi b (by simp))).mono fun e w' h=>h.perm ((List.perm_middle (l₁:=[_,_,_,_,_,_,_,_,_,_,_,_,_])).symm.cons _)⟩
theorem dov_9 {b0 b1 b2 b3 b4 b5 b6 b7 b8 b9 b10 b11 b12 b13:Nat} {o:Int} (hS:Sep w0 X (pC x k f st cs ts (cI lv xs::(binC b0 b1 b2 b3 b4 b5 b6 b7 b8 b9 b10 b11 b12 b13++Cs))) w) (hok:StOk st cs ts) (ho:OpOk 9 o) (hx:xs.length=tkI 9) (hi:∀ v∈xs,I64 v) (hp:st.length+ptI 9≤32) (hcs:(9:Nat)=26→cs.length≤7) (hcr:(9:Nat)=27→0 < cs.length) (hts:(9:Nat)=29→ts.length≤15) (ha:k.args.length≤4) (hai:∀ v∈k.args,I64 v) :
   DovCalls w ((dvL b0 b1 b2 b3 b4 b5 b6 b7 b8 b9 b10 b11 b12 b13).getD 9 .nilFunc) #[ptr x,opV 9 o,lv] (DopPost w0 X (cI lv xs::(binC b0 b1 b2 b3 b4 b5 b6 b7 b8 b9 b10 b11 b12 b13++Cs)) x k f):=by
 obtain ⟨a,b,rfl⟩:=len2 hx
 have S1:=(Sep.pull [_,_,_,_,_,_,_,_,_,_,_,_,_,_,_,_,_,_] hS).push [_,_,_,_,_,_]
 exact ⟨_,_,rfl,fun _ _=>by kernel_rfl,(bin_prog sub_two S1 hok hp 9 o (hi a (by simp)) (hi b (by simp))).mono fun e w' h=>h.perm ((List.perm_middle (l₁:=[_,_,_,_,_,_,_,_,_,_,_,_])).symm.cons _)⟩
theorem dov_10 {b0 b1 b2 b3 b4 b5 b6 b7 b8 b9 b10 b11 b12 b13:Nat} {o:Int} (hS:Sep w0 X (pC x k f st cs ts (cI lv xs::(binC b0 b1 b2 b3 b4 b5 b6 b7 b8 b9 b10 b11 b12 b13++Cs))) w) (hok:StOk st cs ts) (ho:OpOk 10 o) (hx:xs.length=tkI 10) (hi:∀ v∈xs,I64 v) (hp:st.length+ptI 10≤32) (hcs:(10:Nat)=26→cs.length≤7) (hcr:(10:Nat)=27→0 < cs.length) (hts:(10:Nat)=29→ts.length≤15) (ha:k.args.length≤4) (hai:∀ v∈k.args,I64 v) :
   DovCalls w ((dvL b0 b1 b2 b3 b4 b5 b6 b7 b8 b9 b10 b11 b12 b13).getD 10 .nilFunc) #[ptr x,opV 10 o,lv] (DopPost w0 X (cI lv xs::(binC b0 b1 b2 b3 b4 b5 b6 b7 b8 b9 b10 b11 b12 b13++Cs)) x k f):=by
 obtain ⟨a,b,rfl⟩:=len2 hx
 have S1:=(Sep.pull [_,_,_,_,_,_,_,_,_,_,_,_,_,_,_,_,_] hS).push [_,_,_,_,_,_]
 exact ⟨_,_,rfl,fun _ _=>by kernel_rfl,(bin_prog mul_two S1 hok hp 10 o (hi a (by simp)) (hi b (by simp))).mono fun e w' h=>h.perm ((List.perm_middle (l₁:=[_,_,_,_,_,_,_,_,_,_,_])).symm.cons _)⟩
theorem dov_11 {b0 b1 b2 b3 b4 b5 b6 b7 b8 b9 b10 b11 b12 b13:Nat} {o:Int} (hS:Sep w0 X (pC x k f st cs ts (cI lv xs::(binC b0 b1 b2 b3 b4 b5 b6 b7 b8 b9 b10 b11 b12 b13++Cs))) w) (hok:StOk st cs ts) (ho:OpOk 11 o) (hx:xs.length=tkI 11) (hi:∀ v∈xs,I64 v) (hp:st.length+ptI 11≤32) (hcs:(11:Nat)=26→cs.length≤7) (hcr:(11:Nat)=27→0 < cs.length) (hts:(11:Nat)=29→ts.length≤15) (ha:k.args.length≤4) (hai:∀ v∈k.args,I64 v) :
   DovCalls w ((dvL b0 b1 b2 b3 b4 b5 b6 b7 b8 b9 b10 b11 b12 b13).getD 11 .nilFunc) #[ptr x,opV 11 o,lv] (DopPost w0 X (cI lv xs::(binC b0 b1 b2 b3 b4 b5 b6 b7 b8 b9 b10 b11 b12 b13++Cs)) x k f):=by
 obtain ⟨a,b,rfl⟩:=len2 hx
 have S1:=(Sep.pull [_,_,_,_,_,_,_,_,_,_,_,_,_,_,_,_] hS).push [_,_,_,_,_,_]
 exact ⟨_,_,rfl,fun _ _=>by kernel_rfl,(bin_prog div_two S1 hok hp 11 o (hi a (by simp)) (hi b (by simp))).mono fun e w' h=>h.perm ((List.perm_middle (l₁:=[_,_,_,_,_,_,_,_,_,_])).symm.cons _)⟩
theorem dov_12 {b0 b1 b2 b3 b4 b5 b6 b7 b8 b9 b10 b11 b12 b13:Nat} {o:Int} (hS:Sep w0 X (pC x k f st cs ts (cI lv xs::(binC b0 b1 b2 b3 b4 b5 b6 b7 b8 b9 b10 b11 b12 b13++Cs))) w) (hok:StOk st cs ts) (ho:OpOk 12 o) (hx:xs.length=tkI 12) (hi:∀ v∈xs,I64 v) (hp:st.length+ptI 12≤32) (hcs:(12:Nat)=26→cs.length≤7) (hcr:(12:Nat)=27→0 < cs.length) (hts:(12:Nat)=29→ts.length≤15) (ha:k.args.length≤4) (hai:∀ v∈k.args,I64 v) :
   DovCalls w ((dvL b0 b1 b2 b3 b4 b5 b6 b7 b8 b9 b10 b11 b12 b13).getD 12 .nilFunc) #[ptr x,opV 12 o,lv] (DopPost w0 X (cI lv xs::(binC b0 b1 b2 b3 b4 b5 b6 b7 b8 b9 b10 b11 b12 b13++Cs)) x k f):=by
 obtain ⟨a,b,rfl⟩:=len2 hx
 have S1:=(Sep.pull [_,_,_,_,_,_,_,_,_,_,_,_,_,_,_] hS).push [_,_,_,_,_,_]
 exact ⟨_,_,rfl,fun _ _=>by kernel_rfl,(bin_prog rem_two S1 hok hp 12 o (hi a (by simp)) (hi b (by simp))).mono fun e w' h=>h.perm ((List.perm_middle (l₁:=[_,_,_,_,_,_,_,_,_])).symm.cons _)⟩
theorem dov_13 {b0 b1 b2 b3 b4 b5 b6 b7 b8 b9 b10 b11 b12 b13:Nat} {o:Int} (hS:Sep w0 X (pC x k f st cs ts (cI lv xs::(binC b0 b1 b2 b3 b4 b5 b6 b7 b8 b9 b10 b11 b12 b13++Cs))) w) (hok:StOk st cs ts) (ho:OpOk 13 o) (hx:xs.length=tkI 13) (hi:∀ v∈xs,I64 v) (hp:st.length+ptI 13≤32) (hcs:(13:Nat)=26→cs.length≤7) (hcr:(13:Nat)=27→0 < cs.length) (hts:(13:Nat)=29→ts.length≤15) (ha:k.args.length≤4) (hai:∀ v∈k.args,I64 v) :
   DovCalls w ((dvL b0 b1 b2 b3 b4 b5 b6 b7 b8 b9 b10 b11 b12 b13).getD 13 .nilFunc) #[ptr x,opV 13 o,lv] (DopPost w0 X (cI lv xs::(binC b0 b1 b2 b3 b4 b5 b6 b7 b8 b9 b10 b11 b12 b13++Cs)) x k f):=by
 obtain ⟨a,b,rfl⟩:=len2 hx
 have S1:=(Sep.pull [_,_,_,_,_,_,_,_,_,_,_,_,_,_] hS).push [_,_,_,_,_,_]
 exact ⟨_,_,rfl,fun _ _=>by kernel_rfl,(bin_prog and_two S1 hok hp 13 o (hi a (by simp)) (hi b (by simp))).mono fun e w' h=>h.perm ((List.perm_middle (l₁:=[_,_,_,_,_,_,_,_])).symm.cons _)⟩
theorem dov_14 {b0 b1 b2 b3 b4 b5 b6 b7 b8 b9 b10 b11 b12 b13:Nat} {o:Int} (hS:Sep w0 X (pC x k f st cs ts (cI lv xs::(binC b0 b1 b2 b3 b4 b5 b6 b7 b8 b9 b10 b11 b12 b13++Cs))) w) (hok:StOk st cs ts) (ho:OpOk 14 o) (hx:xs.length=tkI 14) (hi:∀ v∈xs,I64 v) (hp:st.length+ptI 14≤32) (hcs:(14:Nat)=26→cs.length≤7) (hcr:(14:Nat)=27→0 < cs.length) (hts:(14:Nat)=29→ts.length≤15) (ha:k.args.length≤4) (hai:∀ v∈k.args,I64 v) :
   DovCalls w ((dvL b0 b1 b2 b3 b4 b5 b6 b7 b8 b9 b10 b11 b12 b13).getD 14 .nilFunc) #[ptr x,opV 14 o,lv] (DopPost w0 X (cI lv xs::(binC b0 b1 b2 b3 b4 b5 b6 b7 b8 b9 b10 b11 b12 b13++Cs)) x k f):=by
 obtain ⟨a,b,rfl⟩:=len2 hx
 have S1:=(Sep.pull [_,_,_,_,_,_,_,_,_,_,_,_,_] hS).push [_,_,_,_,_,_]
 exact ⟨_,_,rfl,fun _ _=>by kernel_rfl,(bin_prog or_two S1 hok hp 14 o (hi a (by simp)) (hi b (by simp))).mono fun e w' h=>h.perm ((List.perm_middle (l₁:=[_,_,_,_,_,_,_])).symm.cons _)⟩
theorem dov_15 {b0 b1 b2 b3 b4 b5 b6 b7 b8 b9 b10 b11 b12 b13:Nat} {o:Int} (hS:Sep w0 X (pC x k f st cs ts (cI lv xs::(binC b0 b1 b2 b3 b4 b5 b6 b7 b8 b9 b10 b11 b12 b13++Cs))) w) (hok:StOk st cs ts) (ho:OpOk 15 o) (hx:xs.length=tkI 15) (hi:∀ v∈xs,I64 v) (hp:st.length+ptI 15≤32) (hcs:(15:Nat)=26→cs.length≤7) (hcr:(15:Nat)=27→0 < cs.length) (hts:(15:Nat)=29→ts.length≤15) (ha:k.args.length≤4) (hai:∀ v∈k.args,I64 v) :
   DovCalls w ((dvL b0 b1 b2 b3 b4 b5 b6 b7 b8 b9 b10 b11 b12 b13).getD 15 .nilFunc) #[ptr x,opV 15 o,lv] (DopPost w0 X (cI lv xs::(binC b0 b1 b2 b3 b4 b5 b6 b7 b8 b9 b10 b11 b12 b13++Cs)) x k f):=by
 obtain ⟨a,b,rfl⟩:=len2 hx
 have S1:=(Sep.pull [_,_,_,_,_,_,_,_,_,_,_,_] hS).push [_,_,_,_,_,_]
 exact ⟨_,_,rfl,fun _ _=>by kernel_rfl,(bin_prog xor_two S1 hok hp 15 o (hi a (by simp)) (hi b (by simp))).mono fun e w' h=>h.perm ((List.perm_middle (l₁:=[_,_,_,_,_,_])).symm.cons _)⟩
theorem dov_16 {b0 b1 b2 b3 b4 b5 b6 b7 b8 b9 b10 b11 b12 b13:Nat} {o:Int} (hS:Sep w0 X (pC x k f st cs ts (cI lv xs::(binC b0 b1 b2 b3 b4 b5 b6 b7 b8 b9 b10 b11 b12 b13++Cs))) w) (hok:StOk st cs ts) (ho:OpOk 16 o) (hx:xs.length=tkI 16) (hi:∀ v∈xs,I64 v) (hp:st.length+ptI 16≤32) (hcs:(16:Nat)=26→cs.length≤7) (hcr:(16:Nat)=27→0 < cs.length) (hts:(16:Nat)=29→ts.length≤15) (ha:k.args.length≤4) (hai:∀ v∈k.args,I64 v) :
   DovCalls w ((dvL b0 b1 b2 b3 b4 b5 b6 b7 b8 b9 b10 b11 b12 b13).getD 16 .nilFunc) #[ptr x,opV 16 o,lv] (DopPost w0 X (cI lv xs::(binC b0 b1 b2 b3 b4 b5 b6 b7 b8 b9 b10 b11 b12 b13++Cs)) x k f):=by
 obtain ⟨a,rfl⟩:=len1 hx
 exact ⟨_,_,rfl,fun _ _=>by kernel_rfl,nots_prog hS hok hp 16 o⟩
theorem dov_17 {b0 b1 b2 b3 b4 b5 b6 b7 b8 b9 b10 b11 b12 b13:Nat} {o:Int} (hS:Sep w0 X (pC x k f st cs ts (cI lv xs::(binC b0 b1 b2 b3 b4 b5 b6 b7 b8 b9 b10 b11 b12 b13++Cs))) w) (hok:StOk st cs ts) (ho:OpOk 17 o) (hx:xs.length=tkI 17) (hi:∀ v∈xs,I64 v) (hp:st.length+ptI 17≤32) (hcs:(17:Nat)=26→cs.length≤7) (hcr:(17:Nat)=27→0 < cs.length) (hts:(17:Nat)=29→ts.length≤15) (ha:k.args.length≤4) (hai:∀ v∈k.args,I64 v) :
   DovCalls w ((dvL b0 b1 b2 b3 b4 b5 b6 b7 b8 b9 b10 b11 b12 b13).getD 17 .nilFunc) #[ptr x,opV 17 o,lv] (DopPost w0 X (cI lv xs::(binC b0 b1 b2 b3 b4 b5 b6 b7 b8 b9 b10 b11 b12 b13++Cs)) x k f):=by
 obtain ⟨a,b,rfl⟩:=len2 hx
 have S1:=(Sep.pull [_,_,_,_,_,_,_,_,_,_,_] hS).push [_,_,_,_,_,_]
 exact ⟨_,_,rfl,fun _ _=>by kernel_rfl,(bin_prog shl_two S1 hok hp 17 o (hi a (by simp)) (hi b (by simp))).mono fun e w' h=>h.perm ((List.perm_middle (l₁:=[_,_,_,_,_])).symm.cons _)⟩
theorem dov_18 {b0 b1 b2 b3 b4 b5 b6 b7 b8 b9 b10 b11 b12 b13:Nat} {o:Int} (hS:Sep w0 X (pC x k f st cs ts (cI lv xs::(binC b0 b1 b2 b3 b4 b5 b6 b7 b8 b9 b10 b11 b12 b13++Cs))) w) (hok:StOk st cs ts) (ho:OpOk 18 o) (hx:xs.length=tkI 18) (hi:∀ v∈xs,I64 v) (hp:st.length+ptI 18≤32) (hcs:(18:Nat)=26→cs.length≤7) (hcr:(18:Nat)=27→0 < cs.length) (hts:(18:Nat)=29→ts.length≤15) (ha:k.args.length≤4) (hai:∀ v∈k.args,I64 v) :
   DovCalls w ((dvL b0 b1 b2 b3 b4 b5 b6 b7 b8 b9 b10 b11 b12 b13).getD 18 .nilFunc) #[ptr x,opV 18 o,lv] (DopPost w0 X (cI lv xs::(binC b0 b1 b2 b3 b4 b5 b6 b7 b8 b9 b10 b11 b12 b13++Cs)) x k f):=by
 obtain ⟨a,b,rfl⟩:=len2 hx
 have S1:=(Sep.pull [_,_,_,_,_,_,_,_,_,_] hS).push [_,_,_,_,_,_]
 exact ⟨_,_,rfl,fun _ _=>by kernel_rfl,(bin_prog shr_two S1 hok hp 18 o (hi a (by simp)) (hi b (by simp))).mono fun e w' h=>h.perm ((List.perm_middle (l₁:=[_,_,_,_])).symm.cons _)⟩
theorem dov_19 {b0 b1 b2 b3 b4 b5 b6 b7 b8 b9 b10 b11 b12 b13:Nat} {o:Int} (hS:Sep w0 X (pC x k f st cs ts (cI lv xs::(binC b0 b1 b2 b3 b4 b5 b6 b7 b8 b9 b10 b11 b12 b13++Cs))) w) (hok:StOk st cs ts) (ho:OpOk 19 o) (hx:xs.length=tkI 19) (hi:∀ v∈xs,I64 v) (hp:st.length+ptI 19≤32) (hcs:(19:Nat)=26→cs.length≤7) (hcr:(19:Nat)=27→0 < cs.length) (hts:(19:Nat)=29→ts.length≤15) (ha:k.args.length≤4) (hai:∀ v∈k.args,I64 v) :
   DovCalls w ((dvL b0 b1 b2 b3 b4 b5 b6 b7 b8 b9 b10 b11 b12 b13).getD 19 .nilFunc) #[ptr x,opV 19 o,lv] (DopPost w0 X (cI lv xs::(binC b0 b1 b2 b3 b4 b5 b6 b7 b8 b9 b10 b11 b12 b13++Cs)) x k f):=by
 obtain ⟨a,b,rfl⟩:=len2 hx
 have S1:=(Sep.pull [_,_,_,_,_,_,_,_,_] hS).push [_,_,_,_,_,_]
 exact ⟨_,_,rfl,fun _ _=>by kernel_rfl,(bin_prog ushr_two S1 hok hp 19 o (hi a (by simp)) (hi b (by simp))).mono fun e w' h=>h.perm ((List.perm_middle (l₁:=[_,_,_])).symm.cons _)⟩
theorem dov_20 {b0 b1 b2 b3 b4 b5 b6 b7 b8 b9 b10 b11 b12 b13:Nat} {o:Int} (hS:Sep w0 X (pC x k f st cs ts (cI lv xs::(binC b0 b1 b2 b3 b4 b5 b6 b7 b8 b9 b10 b11 b12 b13++Cs))) w) (hok:StOk st cs ts) (ho:OpOk 20 o) (hx:xs.length=tkI 20) (hi:∀ v∈xs,I64 v) (hp:st.length+ptI 20≤32) (hcs:(20:Nat)=26→cs.length≤7) (hcr:(20:Nat)=27→0 < cs.length) (hts:(20:Nat)=29→ts.length≤15) (ha:k.args.length≤4) (hai:∀ v∈k.args,I64 v) :
   DovCalls w ((dvL b0 b1 b2 b3 b4 b5 b6 b7 b8 b9 b10 b11 b12 b13).getD 20 .nilFunc) #[ptr x,opV 20 o,lv] (DopPost w0 X (cI lv xs::(binC b0 b1 b2 b3 b4 b5 b6 b7 b8 b9 b10 b11 b12 b13++Cs)) x k f):=by
 obtain ⟨a,b,rfl⟩:=len2 hx
 have S1:=(Sep.pull [_,_,_,_,_,_,_,_] hS).push [_,_,_,_,_,_]
 exact ⟨_,_,rfl,fun _ _=>by kernel_rfl,(bin_prog eq_two S1 hok hp 20 o (hi a (by simp)) (hi b (by simp))).mono fun e w' h=>h.perm ((List.perm_middle (l₁:=[_,_])).symm.cons _)⟩
theorem dov_21 {b0 b1 b2 b3 b4 b5 b6 b7 b8 b9 b10 b11 b12 b13:Nat} {o:Int} (hS:Sep w0 X (pC x k f st cs ts (cI lv xs::(binC b0 b1 b2 b3 b4 b5 b6 b7 b8 b9 b10 b11 b12 b13++Cs))) w) (hok:StOk st cs ts) (ho:OpOk 21 o) (hx:xs.length=tkI 21) (hi:∀ v∈xs,I64 v) (hp:st.length+ptI 21≤32) (hcs:(21:Nat)=26→cs.length≤7) (hcr:(21:Nat)=27→0 < cs.length) (hts:(21:Nat)=29→ts.length≤15) (ha:k.args.length≤4) (hai:∀ v∈k.args,I64 v) :
   DovCalls w ((dvL b0 b1 b2 b3 b4 b5 b6 b7 b8 b9 b10 b11 b12 b13).getD 21 .nilFunc) #[ptr x,opV 21 o,lv] (DopPost w0 X (cI lv xs::(binC b0 b1 b2 b3 b4 b5 b6 b7 b8 b9 b10 b11 b12 b13++Cs)) x k f):=by
 obtain ⟨a,b,rfl⟩:=len2 hx
 have S1:=(Sep.pull [_,_,_,_,_,_,_] hS).push [_,_,_,_,_,_]
 exact ⟨_,_,rfl,fun _ _=>by kernel_rfl,(bin_prog lt_two S1 hok hp 21 o (hi a (by simp)) (hi b (by simp))).mono fun e w' h=>h.perm ((List.perm_middle (l₁:=[_])).symm.cons _)⟩
theorem dov_22 {b0 b1 b2 b3 b4 b5 b6 b7 b8 b9 b10 b11 b12 b13:Nat} {o:Int} (hS:Sep w0 X (pC x k f st cs ts (cI lv xs::(binC b0 b1 b2 b3 b4 b5 b6 b7 b8 b9 b10 b11 b12 b13++Cs))) w) (hok:StOk st cs ts) (ho:OpOk 22 o) (hx:xs.length=tkI 22) (hi:∀ v∈xs,I64 v) (hp:st.length+ptI 22≤32) (hcs:(22:Nat)=26→cs.length≤7) (hcr:(22:Nat)=27→0 < cs.length) (hts:(22:Nat)=29→ts.length≤15) (ha:k.args.length≤4) (hai:∀ v∈k.args,I64 v) :
   DovCalls w ((dvL b0 b1 b2 b3 b4 b5 b6 b7 b8 b9 b10 b11 b12 b13).getD 22 .nilFunc) #[ptr x,opV 22 o,lv] (DopPost w0 X (cI lv xs::(binC b0 b1 b2 b3 b4 b5 b6 b7 b8 b9 b10 b11 b12 b13++Cs)) x k f):=by
 obtain ⟨a,b,rfl⟩:=len2 hx
 have S1:=(Sep.pull [_,_,_,_,_,_] hS).push [_,_,_,_,_,_]
 exact ⟨_,_,rfl,fun _ _=>by kernel_rfl,(bin_prog ult_two S1 hok hp 22 o (hi a (by simp)) (hi b (by simp))).mono fun e w' h=>h.perm ((List.perm_middle (l₁:=[])).symm.cons _)⟩
theorem dov_23 {b0 b1 b2 b3 b4 b5 b6 b7 b8 b9 b10 b11 b12 b13:Nat} {o:Int} (hS:Sep w0 X (pC x k f st cs ts (cI lv xs::(binC b0 b1 b2 b3 b4 b5 b6 b7 b8 b9 b10 b11 b12 b13++Cs))) w) (hok:StOk st cs ts) (ho:OpOk 23 o) (hx:xs.length=tkI 23) (hi:∀ v∈xs,I64 v) (hp:st.length+ptI 23≤32) (hcs:(23:Nat)=26→cs.length≤7) (hcr:(23:Nat)=27→0 < cs.length) (hts:(23:Nat)=29→ts.length≤15) (ha:k.args.length≤4) (hai:∀ v∈k.args,I64 v) :
   DovCalls w ((dvL b0 b1 b2 b3 b4 b5 b6 b7 b8 b9 b10 b11 b12 b13).getD 23 .nilFunc) #[ptr x,opV 23 o,lv] (DopPost w0 X (cI lv xs::(binC b0 b1 b2 b3 b4 b5 b6 b7 b8 b9 b10 b11 b12 b13++Cs)) x k f):=by
 obtain ⟨a,rfl⟩:=len1 hx
 exact ⟨_,_,rfl,fun _ _=>by kernel_rfl,convs_prog hS hok hp 23 o⟩
theorem dov_24 {b0 b1 b2 b3 b4 b5 b6 b7 b8 b9 b10 b11 b12 b13:Nat} {o:Int} (hS:Sep w0 X (pC x k f st cs ts (cI lv xs::(binC b0 b1 b2 b3 b4 b5 b6 b7 b8 b9 b10 b11 b12 b13++Cs))) w) (hok:StOk st cs ts) (ho:OpOk 24 o) (hx:xs.length=tkI 24) (hi:∀ v∈xs,I64 v) (hp:st.length+ptI 24≤32) (hcs:(24:Nat)=26→cs.length≤7) (hcr:(24:Nat)=27→0 < cs.length) (hts:(24:Nat)=29→ts.length≤15) (ha:k.args.length≤4) (hai:∀ v∈k.args,I64 v) :
   DovCalls w ((dvL b0 b1 b2 b3 b4 b5 b6 b7 b8 b9 b10 b11 b12 b13).getD 24 .nilFunc) #[ptr x,opV 24 o,lv] (DopPost w0 X (cI lv xs::(binC b0 b1 b2 b3 b4 b5 b6 b7 b8 b9 b10 b11 b12 b13++Cs)) x k f):=by
 exact ⟨_,_,rfl,fun _ _=>by kernel_rfl,jumps_prog hS hok 24 o⟩
theorem dov_25 {b0 b1 b2 b3 b4 b5 b6 b7 b8 b9 b10 b11 b12 b13:Nat} {o:Int} (hS:Sep w0 X (pC x k f st cs ts (cI lv xs::(binC b0 b1 b2 b3 b4 b5 b6 b7 b8 b9 b10 b11 b12 b13++Cs))) w) (hok:StOk st cs ts) (ho:OpOk 25 o) (hx:xs.length=tkI 25) (hi:∀ v∈xs,I64 v) (hp:st.length+ptI 25≤32) (hcs:(25:Nat)=26→cs.length≤7) (hcr:(25:Nat)=27→0 < cs.length) (hts:(25:Nat)=29→ts.length≤15) (ha:k.args.length≤4) (hai:∀ v∈k.args,I64 v) :
   DovCalls w ((dvL b0 b1 b2 b3 b4 b5 b6 b7 b8 b9 b10 b11 b12 b13).getD 25 .nilFunc) #[ptr x,opV 25 o,lv] (DopPost w0 X (cI lv xs::(binC b0 b1 b2 b3 b4 b5 b6 b7 b8 b9 b10 b11 b12 b13++Cs)) x k f):=by
 obtain ⟨a,rfl⟩:=len1 hx
 exact ⟨_,_,rfl,fun _ _=>by kernel_rfl,jumpzs_prog hS hok 25 o⟩
theorem dov_26 {b0 b1 b2 b3 b4 b5 b6 b7 b8 b9 b10 b11 b12 b13:Nat} {o:Int} (hS:Sep w0 X (pC x k f st cs ts (cI lv xs::(binC b0 b1 b2 b3 b4 b5 b6 b7 b8 b9 b10 b11 b12 b13++Cs))) w) (hok:StOk st cs ts) (ho:OpOk 26 o) (hx:xs.length=tkI 26) (hi:∀ v∈xs,I64 v) (hp:st.length+ptI 26≤32) (hcs:(26:Nat)=26→cs.length≤7) (hcr:(26:Nat)=27→0 < cs.length) (hts:(26:Nat)=29→ts.length≤15) (ha:k.args.length≤4) (hai:∀ v∈k.args,I64 v) :
   DovCalls w ((dvL b0 b1 b2 b3 b4 b5 b6 b7 b8 b9 b10 b11 b12 b13).getD 26 .nilFunc) #[ptr x,opV 26 o,lv] (DopPost w0 X (cI lv xs::(binC b0 b1 b2 b3 b4 b5 b6 b7 b8 b9 b10 b11 b12 b13++Cs)) x k f):=by
 exact ⟨_,_,rfl,fun _ _=>by kernel_rfl,calls_prog hS hok (hcs rfl) 26 o⟩
theorem dov_27 {b0 b1 b2 b3 b4 b5 b6 b7 b8 b9 b10 b11 b12 b13:Nat} {o:Int} (hS:Sep w0 X (pC x k f st cs ts (cI lv xs::(binC b0 b1 b2 b3 b4 b5 b6 b7 b8 b9 b10 b11 b12 b13++Cs))) w) (hok:StOk st cs ts) (ho:OpOk 27 o) (hx:xs.length=tkI 27) (hi:∀ v∈xs,I64 v) (hp:st.length+ptI 27≤32) (hcs:(27:Nat)=26→cs.length≤7) (hcr:(27:Nat)=27→0 < cs.length) (hts:(27:Nat)=29→ts.length≤15) (ha:k.args.length≤4) (hai:∀ v∈k.args,I64 v) :
   DovCalls w ((dvL b0 b1 b2 b3 b4 b5 b6 b7 b8 b9 b10 b11 b12 b13).getD 27 .nilFunc) #[ptr x,opV 27 o,lv] (DopPost w0 X (cI lv xs::(binC b0 b1 b2 b3 b4 b5 b6 b7 b8 b9 b10 b11 b12 b13++Cs)) x k f):=by
 exact ⟨_,_,rfl,fun _ _=>by kernel_rfl,rets_prog hS hok (hcr rfl) 27 o⟩
theorem dov_28 {b0 b1 b2 b3 b4 b5 b6 b7 b8 b9 b10 b11 b12 b13:Nat} {o:Int} (hS:Sep w0 X (pC x k f st cs ts (cI lv xs::(binC b0 b1 b2 b3 b4 b5 b6 b7 b8 b9 b10 b11 b12 b13++Cs))) w) (hok:StOk st cs ts) (ho:OpOk 28 o) (hx:xs.length=tkI 28) (hi:∀ v∈xs,I64 v) (hp:st.length+ptI 28≤32) (hcs:(28:Nat)=26→cs.length≤7) (hcr:(28:Nat)=27→0 < cs.length) (hts:(28:Nat)=29→ts.length≤15) (ha:k.args.length≤4) (hai:∀ v∈k.args,I64 v) :
   DovCalls w ((dvL b0 b1 b2 b3 b4 b5 b6 b7 b8 b9 b10 b11 b12 b13).getD 28 .nilFunc) #[ptr x,opV 28 o,lv] (DopPost w0 X (cI lv xs::(binC b0 b1 b2 b3 b4 b5 b6 b7 b8 b9 b10 b11 b12 b13++Cs)) x k f):=by
 exact ⟨_,_,rfl,fun _ _=>by kernel_rfl,argues_prog hS hok hp 28 o (ho.small (.inl rfl)) ha hai⟩
theorem dov_29 {b0 b1 b2 b3 b4 b5 b6 b7 b8 b9 b10 b11 b12 b13:Nat} {o:Int} (hS:Sep w0 X (pC x k f st cs ts (cI lv xs::(binC b0 b1 b2 b3 b4 b5 b6 b7 b8 b9 b10 b11 b12 b13++Cs))) w) (hok:StOk st cs ts) (ho:OpOk 29 o) (hx:xs.length=tkI 29) (hi:∀ v∈xs,I64 v) (hp:st.length+ptI 29≤32) (hcs:(29:Nat)=26→cs.length≤7) (hcr:(29:Nat)=27→0 < cs.length) (hts:(29:Nat)=29→ts.length≤15) (ha:k.args.length≤4) (hai:∀ v∈k.args,I64 v) :
   DovCalls w ((dvL b0 b1 b2 b3 b4 b5 b6 b7 b8 b9 b10 b11 b12 b13).getD 29 .nilFunc) #[ptr x,opV 29 o,lv] (DopPost w0 X (cI lv xs::(binC b0 b1 b2 b3 b4 b5 b6 b7 b8 b9 b10 b11 b12 b13++Cs)) x k f):=by
 obtain ⟨a,rfl⟩:=len1 hx
 exact ⟨_,_,rfl,fun _ _=>by kernel_rfl,tells_prog hS hok (hts rfl) 29 o⟩
theorem dov_calls {b0 b1 b2 b3 b4 b5 b6 b7 b8 b9 b10 b11 b12 b13:Nat} {o:Int} (c:Nat) (h0:1≤c) (h1:c≤29) (hS:Sep w0 X (pC x k f st cs ts (cI lv xs::(binC b0 b1 b2 b3 b4 b5 b6 b7 b8 b9 b10 b11 b12 b13++Cs))) w) (hok:StOk st cs ts) (ho:OpOk c o) (hx:xs.length=tkI c) (hi:∀ v∈xs,I64 v) (hp:st.length+ptI c≤32) (hcs:c=26→cs.length≤7) (hcr:c=27→0 < cs.length) (hts:c=29→ts.length≤15) (ha:k.args.length≤4) (hai:∀ v∈k.args,I64 v) :
   DovCalls w ((dvL b0 b1 b2 b3 b4 b5 b6 b7 b8 b9 b10 b11 b12 b13).getD c .nilFunc) #[ptr x,opV c o,lv] (DopPost w0 X (cI lv xs::(binC b0 b1 b2 b3 b4 b5 b6 b7 b8 b9 b10 b11 b12 b13++Cs)) x k f):=by
 match c,h0,h1 with
 | 1,_,_=>exact dov_1 hS hok ho hx hi hp hcs hcr hts ha hai
 | 2,_,_=>exact dov_2 hS hok ho hx hi hp hcs hcr hts ha hai
 | 3,_,_=>exact dov_3 hS hok ho hx hi hp hcs hcr hts ha hai
 | 4,_,_=>exact dov_4 hS hok ho hx hi hp hcs hcr hts ha hai
 | 5,_,_=>exact dov_5 hS hok ho hx hi hp hcs hcr hts ha hai
 | 6,_,_=>exact dov_6 hS hok ho hx hi hp hcs hcr hts ha hai
 | 7,_,_=>exact dov_7 hS hok ho hx hi hp hcs hcr hts ha hai
 | 8,_,_=>exact dov_8 hS hok ho hx hi hp hcs hcr hts ha hai
 | 9,_,_=>exact dov_9 hS hok ho hx hi hp hcs hcr hts ha hai
 | 10,_,_=>exact dov_10 hS hok ho hx hi hp hcs hcr hts ha hai
 | 11,_,_=>exact dov_11 hS hok ho hx hi hp hcs hcr hts ha hai
 | 12,_,_=>exact dov_12 hS hok ho hx hi hp hcs hcr hts ha hai
 | 13,_,_=>exact dov_13 hS hok ho hx hi hp hcs hcr hts ha hai
 | 14,_,_=>exact dov_14 hS hok ho hx hi hp hcs hcr hts ha hai
 | 15,_,_=>exact dov_15 hS hok ho hx hi hp hcs hcr hts ha hai
 | 16,_,_=>exact dov_16 hS hok ho hx hi hp hcs hcr hts ha hai
 | 17,_,_=>exact dov_17 hS hok ho hx hi hp hcs hcr hts ha hai
 | 18,_,_=>exact dov_18 hS hok ho hx hi hp hcs hcr hts ha hai
 | 19,_,_=>exact dov_19 hS hok ho hx hi hp hcs hcr hts ha hai
 | 20,_,_=>exact dov_20 hS hok ho hx hi hp hcs hcr hts ha hai
 | 21,_,_=>exact dov_21 hS hok ho hx hi hp hcs hcr hts ha hai
 | 22,_,_=>exact dov_22 hS hok ho hx hi hp hcs hcr hts ha hai
 | 23,_,_=>exact dov_23 hS hok ho hx hi hp hcs hcr hts ha hai
 | 24,_,_=>exact dov_24 hS hok ho hx hi hp hcs hcr hts ha hai
 | 25,_,_=>exact dov_25 hS hok ho hx hi hp hcs hcr hts ha hai
 | 26,_,_=>exact dov_26 hS hok ho hx hi hp hcs hcr hts ha hai
 | 27,_,_=>exact dov_27 hS hok ho hx hi hp hcs hcr hts ha hai
 | 28,_,_=>exact dov_28 hS hok ho hx hi hp hcs hcr hts ha hai
 | 29,_,_=>exact dov_29 hS hok ho hx hi hp hcs hcr hts ha hai
 | 0,h,_=>omega
 | n+30,_,h=>omega
end
end Go.Proofs.YtgfogfciobmmpaaGreatDoor
