/- A part of the proof of the law TopTells: ChnMachN18 ChnNew18 Agn Cms Came Cms2 Cms3 Cms4 Wnt CodCBase CodCLeaf AgN Blk. -/
import Derived.Test.YtgfogfciobmmpaaGreatDoorPAr
import Derived.Test.YtgfogfciobmmpaaGreatDoorPBe
import Derived.Test.YtgfogfciobmmpaaGreatDoorPBg
import Derived.Deep.RegionLaw
import Derived.WalkKit
import Derived.Lib.Hide
import Derived.Laws.BitsAllLaws
import Derived.Laws.BitsLemmas
import Derived.Test.YtgfogfciobmmpaaGreatDoorProg
import Derived.KernelRfl
import Derived.BigQuiet
import Derived.Deep.QuietTactic
import Derived.Outline
import Derived.Deep.RegionHeld3
import Derived.Test.YtgfogfciobmmpaaGreatDoorRows
set_option linter.unusedSimpArgs false
set_option linter.unusedVariables false
set_option maxRecDepth 100000
set_option maxHeartbeats 8000000
namespace Go.Proofs.YtgfogfciobmmpaaGreatDoor
namespace Chn
open Go.RowKit
structure MS where
 base:Int
 most:Int
 k:K
def Rep (w:World) (p:Nat) (m:MS) (F:List Nat):Prop :=
 inB m.base m.most∧OkK m.most m.k∧∃ B nx,F=p::B.map Ent.b∧Lies w p m.base m.most nx∧Store w p B∧FV B p m.k nx
def outM (m:MS) (v:Int):WantS:=(goK m.base m.most m.k v).1
def stepM (m:MS) (v:Int):MS:=⟨m.base,m.most,(goK m.base m.most m.k v).2⟩
theorem ok_then {base most call k:Int} {d:WayD} (h:OkD most d):OkK most (thenK base call k d).2:=by
 obtain ⟨c,q,st,ky,a⟩:=d
 unfold thenK
 split
 · cases a
   · exact h
   · exact trivial
 · split
   · cases a
     · exact trivial
     · exact ⟨h,h.2 rfl⟩
   · split
     · cases a <;> exact trivial
     · cases a
       · cases st <;> exact trivial
       · exact trivial
theorem linkOk {most p:Int} (hm:most≤16) (h:leadsP most p):cellOk (linkI p):=linkC h hm
theorem ok_step {base most:Int} {k:K} (hb:inB base most) (h:OkK most k) (v:Int):OkK most (goK base most k v).2:=by
 obtain ⟨b0,b1,m0,m1⟩:=hb
 cases k with
 | least=>exact trivial
 | len=>exact ⟨Int.le_refl _,m0⟩
 | start call k=>exact ⟨by unfold cellOk;omega,Int.le_refl _,m0⟩
 | keyOf=>simp only [goK];split <;> exact trivial
 | keyOf1=>exact trivial
 | counts n =>
   simp only [goK]
   split
   · rename_i hc
     obtain ⟨h1,h2⟩:=h
     have:=hc.2
     exact ⟨by omega,by omega⟩
   · exact trivial
 | goes call k cell n =>
   obtain ⟨h1,h2,h3⟩:=h
   simp only [goK]
   split
   · rename_i hc
     have:=hc.2
     exact ⟨h1,h2,by omega,hc.1⟩
   · exact ok_then ⟨h1,fun e=>by cases e⟩
 | goes1 call k cell n p =>
   obtain ⟨h1,h2,h3,h4⟩:=h
   simp only [goK]
   split
   · exact ok_then ⟨h1,fun _=>h4⟩
   · exact ⟨linkOk m1 h4,by omega,by omega⟩
 | addF k d =>
   simp only [goK]
   split
   · exact ⟨h,by assumption⟩
   · exact h
 | addQ k d f=>exact h
 | addU k d =>
   simp only [goK]
   split
   · exact trivial
   · exact ⟨h,by omega,by omega⟩
 | delQ d=>exact h
 | delF d=>exact h
 | put t =>
   cases t with
   | lays1 k d f=>exact h
   | lays2 k d u=>exact ⟨h.1,by unfold leadsP;have:=h.2;omega⟩
   | key k d node=>exact h
   | link k d node=>exact trivial
   | fin=>exact trivial
   | delW d=>exact h
   | delL d=>exact trivial
   | delFin=>exact trivial
 | done x=>exact trivial
def NextPost (p:Nat) (m:MS) (F:List Nat) (v:Int) (w:World) (e:Ending) (w':World):Prop :=
 e=.returned (outM m v).val∧w.grownBy w' (some p)∧∃ F',Rep w' p (stepM m v) F'∧∀ k∈F',k∈F∨w.heap.size≤k
theorem next_step (w:World) (p:Nat) (base most:Int) (B:List Ent) (k:K) (nx:Value) (v:Int) (h:Lies w p base most nx) (hs:Store w p B) (hb:inB base most) (hok:OkK most k) (hF:FV B p k nx) :
   Calls Tryz.prog 288 #[.pointer (some ⟨p,0,none⟩),.int .i64 v] w (StepPost p base most B (goK base most k v) w):=by
 cases k with
 | least=>obtain ⟨bx,h1,rfl⟩:=hF;exact next_least w p base most B v bx h hs hb h1
 | len=>obtain ⟨bx,h1,rfl⟩:=hF;exact next_len w p base most B v bx h hs hb h1
 | start call k=>obtain ⟨bx,bk,bc,h1,h2,h3,rfl⟩:=hF;exact next_start w p base most B v call k bx bk bc h hs hb h1 h2 h3
 | keyOf=>cases hF;exact next_keyOf w p base most B v h hs hb
 | keyOf1=>obtain ⟨bx,h1,rfl⟩:=hF;exact next_keyOf1 w p base most B v bx h hs hb h1
 | counts n=>obtain ⟨bx,bn,h1,h2,rfl⟩:=hF;exact next_counts w p base most B v n bx bn h hs hb h1 h2 hok
 | goes call k cell n =>
   obtain ⟨bx,bn,bt,bc,bk,tv,h1,h2,⟨t1,t2,t3,g1,g2,g3,rfl⟩,h3,h4,h5,rfl⟩:=hF
   exact next_goes w p base most B v call k cell n bx bn bt t1 t2 t3 bc bk h hs hb h1 h2 h3 g1 g2 g3 h4 h5 hok.2
 | goes1 call k cell n q =>
   obtain ⟨bk,bt,bc,bp,bx,bn,tv,h1,⟨t1,t2,t3,g1,g2,g3,rfl⟩,h2,h3,h4,h5,h6,rfl⟩:=hF
   exact next_goes1 w p base most B v call k cell n q bk bt t1 t2 t3 bc bp bx bn h hs hb h1 h2 g1 g2 g3 h3 h4 h5 h6 ⟨hok.2.1,hok.2.2.1⟩ hok.2.2.2
 | addF k d=>obtain ⟨bx,bl,h1,h2,rfl⟩:=hF;exact next_addF w p base most B v k d bx bl h hs hb h1 h2
 | addQ k d f=>obtain ⟨bx,bl,bf,h1,h2,h3,rfl⟩:=hF;exact next_addQ w p base most B v k f d bx bl bf h hs hb h1 h2 h3
 | addU k d=>obtain ⟨bx,bl,h1,h2,rfl⟩:=hF;exact next_addU w p base most B v k d bx bl h hs hb h1 h2
 | delQ d=>obtain ⟨bx,bw,h1,h2,rfl⟩:=hF;exact next_delQ w p base most B v d bx bw h hs hb h1 h2 hok.1.1
 | delF d=>obtain ⟨bx,bw,h1,h2,rfl⟩:=hF;exact next_delF w p base most B v d bx bw h hs hb h1 h2 hok.2
 | done x=>obtain ⟨bw,h1,rfl⟩:=hF;exact next_done w p base most B v x bw h hs hb h1
 | put t =>
   cases t with
   | lays1 k d f =>
     obtain ⟨bt,tv,⟨bl,bf,⟨lv,⟨s1,s2,s3,l1,l2,l3,rfl⟩,h1⟩,h2,rfl⟩,h3,rfl⟩:=hF
     exact next_put_lays1 w p base most B v k f d s3 bl s1 s2 bf bt h hs hb h1 l1 l2 h2 h3 l3 hok.2
   | lays2 k d u =>
     obtain ⟨bt,tv,⟨bl,bf,⟨lv,⟨s1,s2,s3,l1,l2,l3,rfl⟩,h1⟩,h2,rfl⟩,h3,rfl⟩:=hF
     exact next_put_lays2 w p base most B v k u d s3 bl s1 s2 bf bt h hs hb h1 l1 l2 h2 h3 l3 hok.2
   | key k d node=>obtain ⟨bt,tv,⟨bx,bn,bw,h1,h2,h3,rfl⟩,h4,rfl⟩:=hF;exact next_put_key w p base most B v k node d bx bn bw bt h hs hb h1 h2 h3 h4 hok.2
   | link k d node=>obtain ⟨bt,tv,⟨bx,bw,bn,h1,h2,h3,rfl⟩,h4,rfl⟩:=hF;exact next_put_link w p base most B v k node d bx bw bn bt h hs hb h1 h2 h3 h4 hok.1.1
   | fin=>obtain ⟨bt,tv,⟨bx,h1,rfl⟩,h4,rfl⟩:=hF;exact next_put_fin w p base most B v bx bt h hs hb h1 h4
   | delW d=>obtain ⟨bt,tv,⟨bx,bw,h1,h2,rfl⟩,h4,rfl⟩:=hF;exact next_put_delW w p base most B v d bx bw bt h hs hb h1 h2 h4
   | delL d=>obtain ⟨bt,tv,⟨bx,bw,h1,h2,rfl⟩,h4,rfl⟩:=hF;exact next_put_delL w p base most B v d bx bw bt h hs hb h1 h2 h4
   | delFin=>obtain ⟨bt,tv,⟨bx,h1,rfl⟩,h4,rfl⟩:=hF;exact next_put_delFin w p base most B v bx bt h hs hb h1 h4
theorem Next_calls (w:World) (p:Nat) (m:MS) (F:List Nat) (v:Int) (hr:Rep w p m F) :
   Calls Tryz.prog 288 #[.pointer (some ⟨p,0,none⟩),.int .i64 v] w (NextPost p m F v w):=by
 obtain ⟨hb,hok,B,nx,rfl,hL,hS,hF⟩:=hr
 have hlt:p < w.heap.size:=(Array.getElem?_eq_some_iff.1 hL).1
 refine (next_step w p m.base m.most B m.k nx v hL hS hb hok hF).mono ?_
 rintro e w' ⟨he,hg,nx',N,hL',hN,hF'⟩
 refine ⟨he,hg,p::(N++B).map Ent.b,⟨hb,ok_step hb hok v,N++B,nx',rfl,hL',Store.app (fun x hx=>?_) (hS.keep hg),hF'⟩,fun k hk=>?_⟩
 · obtain ⟨h1,h2⟩:=hN x hx
   exact ⟨by omega,h2⟩
 · rcases List.mem_cons.1 hk with rfl | hk
   · exact .inl List.mem_cons_self
   · obtain ⟨x,hx,rfl⟩:=List.mem_map.1 hk
     rcases List.mem_append.1 hx with hx | hx
     · exact .inr (hN x hx).1
     · exact .inl (List.mem_cons_of_mem _ (List.mem_map_of_mem hx))
theorem rep_keep {w w':World} {p:Nat} {st:MS} {F:List Nat} (h:Rep w p st F) (hk:∀ q∈F,w'.heap[q]?=w.heap[q]?):Rep w' p st F:=by
 obtain ⟨h1,h2,B,nx,rfl,hL,hS,hF⟩:=h
 exact ⟨h1,h2,B,nx,rfl,(hk p List.mem_cons_self).trans hL,fun e he=>⟨(hS e he).1,(hk e.b (List.mem_cons_of_mem _ (List.mem_map_of_mem he))).trans (hS e he).2⟩,hF⟩
theorem rep_mem {w:World} {p:Nat} {st:MS} {F:List Nat} (h:Rep w p st F):p∈F∧∀ q∈F,q < w.heap.size:=by
 obtain ⟨h1,h2,B,nx,rfl,hL,hS,hF⟩:=h
 refine ⟨List.mem_cons_self,fun q hq=>?_⟩
 rcases List.mem_cons.1 hq with rfl | hq
 · exact (Array.getElem?_eq_some_iff.1 hL).1
 · obtain ⟨x,hx,rfl⟩:=List.mem_map.1 hq
   exact (Array.getElem?_eq_some_iff.1 (hS x hx).2).1
end Chn
namespace Chn
open Go.RowKit
def arityI (c:Int):Int:=if c=1∨c=4∨c=6∨c=8 then 1 else if c=7∨c=5 then 0 else -1
theorem call_cases (c:Int):c=1∨c=4∨c=6∨c=8∨c=7∨c=5∨(c≠1∧c≠4∧c≠6∧c≠8∧c≠7∧c≠5):=by omega
theorem arity_none {c:Int} (h:c≠1∧c≠4∧c≠6∧c≠8∧c≠7∧c≠5):arityI c = -1:=by
 unfold arityI
 rw [if_neg (by omega),if_neg (by omega)]
theorem arity_calls (c:Int) (w:World):Calls Tryz.prog 155 #[.int .i64 c] w (Just (.int .i64 (arityI c)) w):=by
 rcases call_cases c with rfl | rfl | rfl | rfl | rfl | rfl | h
 case' inr.inr.inr.inr.inr.inr =>
   rw [arity_none h]
   obtain ⟨h1,h2,h3,h4,h5,h6⟩:=h
   have k1:(c == 1)=false:=by simpa using h1
   have k2:(c == 4)=false:=by simpa using h2
   have k3:(c == 6)=false:=by simpa using h3
   have k4:(c == 8)=false:=by simpa using h4
   have k5:(c == 7)=false:=by simpa using h5
   have k6:(c == 5)=false:=by simpa using h6
   clear h1 h2 h3 h4 h5 h6
 all_goals
   go_enter Tryz.func155,Tryz.ntmps155
   go_wp2
   go_ret
   exact ⟨rfl,rfl⟩
def initM (base most call:Int) (xs:List Int):MS:=⟨base,most,if call=7 then .least else if call=5 then .len else .start call (xs.getD 0 0)⟩
def NewPost (m:MS) (w:World) (e:Ending) (w':World):Prop :=
 ∃ p,w.heap.size≤p∧e=.returned (.tuple #[.pointer (some ⟨p,0,none⟩),.int .i64 0])∧Below w.heap.size w w'∧∃ F,Rep w' p m F∧∀ k∈F,w.heap.size≤k
theorem list_one {xs:List Int} (h:xs.length=1):∃ i,xs=[i]:=by
 match xs,h with
 | [i],_=>exact ⟨i,rfl⟩
theorem arity_cases {call:Int} {n:Nat} (h:arityI call=(n:Int)):(call=1∨call=4∨call=6∨call=8)∧n=1∨(call=7∨call=5)∧n=0:=by
 unfold arityI at h
 split at h
 · left;exact ⟨by assumption,by omega⟩
 · split at h
   · right;exact ⟨by assumption,by omega⟩
   · omega
theorem New_yes (w:World) (B:Nat) (base most call:Int) (a:Value) (xs:List Int) (ha:Reads w B a xs) (hB:B≤w.heap.size) (hyes:takesB base most (arityI call) xs.length=true) :
   Calls Tryz.prog 105 #[.int .i64 base,.int .i64 most,.int .i64 call,a] w (NewPost (initM base most call xs) w):=by
 obtain ⟨hxl,hxr,a,ca,rfl,hca,ha⟩:=ha
 obtain ⟨⟨hm0,hm16⟩,hb0,hb1,har⟩:=of_decide_eq_true hyes
 clear hyes
 have hok:Hid (inB base most):=⟨hb0,hb1,hm0,hm16⟩
 have harr:(arityI call != (xs.length:Int))=false:=by simpa using har
 rcases arity_cases har with ⟨hc,hl⟩ | ⟨hc,hl⟩
 · obtain ⟨i,rfl⟩:=list_one hl
   rcases ha with h | ⟨b,off,rfl,hBb,hcell⟩
   · cases h
   have c0:=hcell 0 (by simp)
   simp at c0
   have hbs:b < w.heap.size:=by omega
   have hbne:b≠w.heap.size:=by omega
   have c3:∀ o1 o2 o3,(((w.alloc o1).alloc o2).alloc o3).cell? ⟨b,off,none⟩=some (.int .i64 i):=fun o1 o2 o3=>by
     rw [World.cell?_alloc_lt _ _ _ (by simp;omega),World.cell?_alloc_lt _ _ _ (by simp;omega),World.cell?_alloc_lt _ _ _ hbs]
     exact c0
   have e7:(call == 7)=false:=by rcases hc with rfl | rfl | rfl | rfl <;> rfl
   have e5:(call == 5)=false:=by rcases hc with rfl | rfl | rfl | rfl <;> rfl
   have hini:initM base most call [i]=⟨base,most,.start call i⟩:=by unfold initM;rw [if_neg (by omega),if_neg (by omega)];rfl
   have HI:=kH hini
   clear hcell hl har hxr hc hini
   go_enter Tryz.func105,Tryz.ntmps105
   have harr1:arityI call=1:=by have:=of_decide_eq_true (show decide (arityI call=1)=true from by simpa using harr);exact this
   clear harr
   go_wp2_with (go_at_call 155;refine (arity_calls _ _).mono ?_;rintro e w' ⟨rfl,rfl⟩;rw [harr1])
   go_ret2
   rw [HI.out]
   refine ⟨w.heap.size+1,by omega,rfl,below_alloc_of (below_alloc_of (below_alloc_of (below_alloc _ _) _) _) _,_,⟨hok.out,trivial,
     [⟨w.heap.size+1+1,#[.pointer (some ⟨w.heap.size+1,0,none⟩)],191⟩,⟨w.heap.size+1+1+1,#[.int .i64 i],2⟩,⟨w.heap.size,#[.int .i64 call],3⟩],_,rfl,kO (kO (heap_new (by simp))),?_,
     _,_,_,List.mem_cons_self,List.mem_cons_of_mem _ List.mem_cons_self,List.mem_cons_of_mem _ (List.mem_cons_of_mem _ List.mem_cons_self),rfl⟩,?_⟩
   · intro x hx
     simp only [List.mem_cons,List.not_mem_nil,or_false] at hx
     rcases hx with rfl | rfl | rfl
     · exact ⟨by simp,kO (heap_new (by simp))⟩
     · exact ⟨by simp;omega,heap_new (by simp)⟩
     · exact ⟨by simp,kO (kO (kO (heap_new rfl)))⟩
   · intro q hq
     simp only [List.map_cons,List.map_nil,List.mem_cons,List.not_mem_nil,or_false] at hq
     omega
 · obtain rfl:xs=[]:=List.eq_nil_of_length_eq_zero hl
   clear ha har hxr hl
   rcases hc with rfl | rfl
   all_goals
     go_enter Tryz.func105,Tryz.ntmps105
     go_wp2_with (go_at_call 155;refine (arity_calls _ _).mono ?_;rintro e w' ⟨rfl,rfl⟩;simp only [show arityI 7=0 from rfl,show arityI 5=0 from rfl])
     go_ret2
     refine ⟨w.heap.size+1,by omega,rfl,below_alloc_of (below_alloc_of (below_alloc _ _) _) _,_,⟨hok.out,trivial,
       [⟨w.heap.size+1+1,#[.pointer (some ⟨w.heap.size+1,0,none⟩)],191⟩],_,rfl,kO (heap_new (by simp)),?_,_,List.mem_cons_self,rfl⟩,?_⟩
     · intro x hx
       obtain rfl:=List.mem_singleton.1 hx
       exact ⟨by simp,heap_new (by simp)⟩
     · intro q hq
       simp only [List.map_cons,List.map_nil,List.mem_cons,List.not_mem_nil,or_false] at hq
       omega
end Chn
section
open Go.RowKit
variable {w0:World} {X:List Nat} {Cs:List Comp} {w:World} {x:Nat} {k:PCfg} {f:PF} {st cs ts:List Int} {t:TxD} {F:List Nat} {old:List EvD}
def newPF (f:PF) (tx:Nat) (ov:Value):PF:={ f with nth:=f.nth+1,tx:=tx,begun:=false,published:=false,at_:=0,sv:=.slice none 0 0,cv:=.slice none 0 0,tv:=.slice none 0 0,came:=.no,ask:=.nilIface,word:=0,ov:=ov }
theorem Sep.pOv (h:Sep w0 X (cBlk x (progO k f)::Cs) w) (v:Value):Sep w0 X (cBlk x (progO k { f with ov:=v })::Cs) (w.setCell ⟨x,22,none⟩ v):=h.pset 22 _ (by simp [progA])
theorem progA_try (k:PCfg) (f:PF) (tx:Nat):(((((((((((progA k f).setIfInBounds 12 (ptr tx)).setIfInBounds 13 (.bool false)).setIfInBounds 14 (.bool false)).setIfInBounds 15 (.int .i64 0)).setIfInBounds 16 (.slice none 0 0)).setIfInBounds 17 (.slice none 0 0)).setIfInBounds 18 (.slice none 0 0)).setIfInBounds 19 .nilFunc).setIfInBounds 20 .nilIface).setIfInBounds 21 (.int .i64 0)).setIfInBounds 11 (.int .i64 (f.nth+1))=progA k (newPF f tx f.ov):=by
 simp [progA,newPF,CameD.val]
theorem Sep.pTry (h:Sep w0 X (cBlk x (progO k f)::Cs) w) (tx:Nat):Sep w0 X (cBlk x (progO k (newPF f tx f.ov))::Cs)
   (((((((((((w.setCell ⟨x,12,none⟩ (ptr tx)).setCell ⟨x,13,none⟩ (.bool false)).setCell ⟨x,14,none⟩ (.bool false)).setCell ⟨x,15,none⟩ (.int .i64 0)).setCell ⟨x,16,none⟩ (.slice none 0 0)).setCell ⟨x,17,none⟩ (.slice none 0 0)).setCell ⟨x,18,none⟩ (.slice none 0 0)).setCell ⟨x,19,none⟩ .nilFunc).setCell ⟨x,20,none⟩ .nilIface).setCell ⟨x,21,none⟩ (.int .i64 0)).setCell ⟨x,11,none⟩ (.int .i64 (f.nth+1))):=by
 have h6:=((((((((((h.set 12 (ptr tx)).set 13 (.bool false)).set 14 (.bool false)).set 15 (.int .i64 0)).set 16 (.slice none 0 0)).set 17 (.slice none 0 0)).set 18 (.slice none 0 0)).set 19 .nilFunc).set 20 .nilIface).set 21 (.int .i64 0)).set 11 (.int .i64 (f.nth+1))
 rw [progA_try] at h6
 exact h6
theorem row_told {W:World} {Y:List Nat} {Ds:List Comp} {w1:World} {ev:Value} {l:List EvD} (h:Sep w1 Y (cEv ev (bare (l.drop 0))::Ds) W):RowAt W 44 19 ev l.length (evCells (bare l)):=by
 have h:=h.h0
 rw [List.drop_zero] at h
 have e:(bare l).length=l.length:=bare_length l
 unfold cEv cRow at h
 rw [e] at h
 exact h
theorem row_old {W:World} {Y:List Nat} {Ds:List Comp} {w1:World} {ev:Value} {l:List EvD} (h:Sep w1 Y (cEv ev (bare l)::Ds) W):Sep w1 Y (cRow 44 19 ev l.length (evCells (bare l))::Ds) W:=by
 have e:(bare l).length=l.length:=bare_length l
 unfold cEv at h
 rw [e] at h
 exact h
theorem again_prog (hS:Sep w0 X (pC x k f st cs ts (cEv f.ov (bare old)::cTx f.tx t F::Cs)) w) (hc:CfgOk k.c) (hn:0 < t.told.length∧t.told.length≤1073741824) (ho:old.length+t.told.length≤1073741824) (hnth:0≤f.nth∧f.nth≤1000) :
   Calls Tryz.prog 38 #[ptr x] w (fun e w'=>e=.returned (.tuple #[])∧∃ tx ov F',Sep w0 X (pC x k (newPF f tx ov) [] [] [] (cEv ov (bare (old++t.told))::cTx tx (newTx k.c.ring k.c.writes k.c.stamps k.c.multi) F'::Cs)) w'):=by
 obtain ⟨i0,yi,yz0,yz1,yz2⟩:=info_parts infoEv
 have hlt:=heap_lt hS.h0
 have c12:=hS.cell 12
 have c22:=hS.cell 22
 simp only [progA,gA,gZ,gS] at c12 c22
 have HT:=kH (fun q=>Told_tx ((hS.drewN q).pull [_,_,_,_,_,_]) 0 (Nat.zero_le _) hn.2)
 have HS:=kH hS
 have HC:=kH hc
 have HLN:=kH (show (evCells (bare t.told)).length=t.told.length * 19 by rw [evCells_length,bare_length])
 clear hS hc
 unfold ptr at *
 go_enter Tryz.func38,Tryz.ntmps38
 go_wp2_with fail
 go_region_law (first | (refine step_append_lies _ rfl (.tmp 8) (.tmp 14) 37 rfl 0 44 i0 _ 19 152 Tryz.underlying37 yi yz0 yz1 yz2 rfl (by decide) f.ov old.length (evCells (bare old)) rfl HS2.out.h0 ⟨g0,0,none⟩ t.told.length cap0 (evCells (bare t.told)) rfl HLN.out (HNW.out) (evCells_one _) (by omega) (by unfold maxLen;omega) (by omega) (Nat.zero_le _) _ rfl ?_;intro g cap w5 hown5 hgrow5 hat5 hgl5;have S5:=HS2.out.append hgrow5 hown5 hat5 (Nat.le_refl _);have S6:=S5.pull [_,_,_];have f22:=S6.froz 22;have k22:=S6.cell 22;simp only [progA,gA,gZ,gS] at k22;have HS6:=kH S6;clear S5 S6 hown5 hgrow5 hat5) | (go_simp;refine (HT.out _).mono ?_;rintro e2 w2 ⟨ev,F2,rfl,S2⟩;have hr2:=row_told S2;obtain ⟨g0,cap0,rfl,hq1,hq2,hq3,hq4,hq5,hq6⟩:=hr2.read hn.1;have HNW:Hid (∀ (j:Nat) (u:Value),(evCells (bare t.told))[j]?=some u→w2.cell? ((⟨g0,0,none⟩:Addr).add j)=some u):=(by (intro j u hu;have e:(⟨g0,0,none⟩:Addr).add j=⟨g0,j,none⟩:=(by unfold Addr.add;split <;> simp_all);rw [e];exact hq5 j u hu));have S3:=row_old (S2.pull [_,_,_,_,_,_,_]);have c22':=(S3.pull [_,_,_]).cell 22;simp only [progA,gA,gZ,gS] at c22';have HS2:=kH S3;clear S2 S3 hr2 hq1 hq2 hq3 hq4 hq5 hq6))
 all_goals
   have S7:=HS6.out.pOv (.slice (some ⟨g,0,none⟩) (old.length+t.told.length) cap)
   generalize w5.setCell ⟨x,22,none⟩ (.slice (some ⟨g,0,none⟩) (old.length+t.told.length) cap)=w6 at *
   have HS7:=kH S7
   have hk:=fun j=>S7.cell j
   have d0:=hk 0
   have d1:=hk 1
   have d2:=hk 2
   have d3:=hk 3
   have d4:=hk 4
   have d5:=hk 5
   have d6:=hk 6
   simp only [progA,gA,gZ,gS] at d0 d1 d2 d3 d4 d5 d6
   have HN:=kH (New_tx S7 k.raw k.tries none 0 0 k.c HC.out)
   unfold cfgV at HN
   clear S7 hk
   go_wp2_with fail
   refine HN.out.mono ?_
   rintro e7 w7 ⟨tx',q',rfl,hm,hR,S8⟩
   have S9:=Sep.txOutN [_,_,_,_,_,_,_,_] S8
   have hk:=fun j=>S9.cell j
   have c11:=hk 11
   have c12':=hk 12
   have c13:=hk 13
   have c14:=hk 14
   have c15:=hk 15
   have c16:=hk 16
   have c17:=hk 17
   have c18:=hk 18
   have c19:=hk 19
   have c20:=hk 20
   have c21:=hk 21
   have f11:=S9.froz 11
   have f12:=S9.froz 12
   have f13:=S9.froz 13
   have f14:=S9.froz 14
   have f15:=S9.froz 15
   have f16:=S9.froz 16
   have f17:=S9.froz 17
   have f18:=S9.froz 18
   have f19:=S9.froz 19
   have f20:=S9.froz 20
   have f21:=S9.froz 21
   simp only [progA,gA,gZ,gS] at c11 c12' c13 c14 c15 c16 c17 c18 c19 c20 c21
   have HS9:=kH S9
   have HM:=kH hm
   have HR:=kH hR
   have hnth':0≤f.nth+1∧f.nth+1≤1001:=by omega
   have HNT:=kH (show IntKind.i64.wrap (f.nth+1)=f.nth+1 from IntWalk.i64_in _ (by omega))
   clear S8 S9 hk hm hR d0 d1 d2 d3 d4 d5 d6
   unfold ptr at *
   go_wp2
   go_end0
   have A:=HS9.out.pTry tx'
   have B:=(((((A.pull [_,_]).drop.pull [_,_]).drop.pull [_,_]).drop.pull [_,_]).drop.pull [_,_]).drop
   have B1:Sep w0 X (txC tx' q' (wayV (newTx k.c.ring k.c.writes k.c.stamps k.c.multi).way 0) (.slice none 0 0) (newTx k.c.ring k.c.writes k.c.stamps k.c.multi) (wayC 0 0 .nilFunc (newTx k.c.ring k.c.writes k.c.stamps k.c.multi).way ([_,_,_]++Cs))) _:=Sep.txInN [_,_,_] B
   obtain ⟨F',B2⟩:=Sep.txClose (by rw [HM.out];rfl) HR.out B1
   have B3:=((((B2.nilRow 2 1).nilRow 2 1).nilRow 2 1).pull [_,_,_,_])
   have B4:=(((B3.pull [_,_,_,_,_,_]).push [_,_,_,_]).pull [_,_,_,_,_]).push [_,_,_,_,_,_]
   refine ⟨rfl,tx',.slice (some ⟨g,0,none⟩) (old.length+t.told.length) cap,F',?_⟩
   rw [bare_app]
   unfold cEv
   rw [evCells_app,show (bare old++bare t.told).length=old.length+t.told.length by simp [bare]]
   exact B4
end
section
open Go.RowKit
variable {w0:World} {X:List Nat} {Cs:List Comp} {w:World} {x:Nat} {k:PCfg} {f:PF} {st cs ts:List Int} {t:TxD} {F:List Nat} {old:List EvD}
theorem Phase_c (hS:Sep w0 X (cTx x t F::Cs) w) :
   Calls Tryz.prog 59 #[ptr x] w (fun e w'=>e=.returned (.int .i64 t.phase)∧∃ F',Sep w0 X (cTx x t F'::Cs) w'):=by
 obtain ⟨q,a,j,lv,tv,h1,h2,hS⟩:=hS.txOpen
 refine (Phase_tx hS).mono ?_
 rintro e w' ⟨rfl,S⟩
 exact ⟨rfl,Sep.txClose h1 h2 S⟩
theorem Sep.pPub (h:Sep w0 X (cBlk x (progO k f)::Cs) w) (b:Bool):Sep w0 X (cBlk x (progO k { f with published:=b })::Cs) (w.setCell ⟨x,14,none⟩ (.bool b)):=h.pset 14 _ (by simp [progA])
theorem Sep.retNew {W:World} {f:Func} {Q:Ending→World→Prop} {act:Act} {q:Tmp} (a:AnsD) (hres:f.results=#[.cell q 35])
   (h:Sep w0 X Cs W) (hg:act.tmps.getD q undef=.pointer (some ⟨W.heap.size,0,none⟩)) (hd:act.defers=[]) (hQ:∀ W',Sep w0 X Cs W'→Q (.returned a.val) W') :
   bodyPost Tryz.prog f Q .ret act (W.alloc (.cells #[.int .i64 a.kind,.int .i64 a.err,.int .i64 a.value,.bool a.access] 35 (0,0))) :=
 bodyPost_ret (results_cell_row hres _ _ _ _ _ _ _ hg (heap_new_at rfl) Tryz.underlying35 rfl infoAns) hd (hQ _ (h.alloc _))
structure PfOk (f:PF) (st cs ts:List Int) (j:JobD):Prop where
 ok:StOk st cs ts
 begun:f.begun=j.begun
 came:j.begun=true→f.came.fin=j.fin∧f.came≠.no
 word:I64 f.word
 nth:0≤f.nth∧f.nth≤255
 loaded:f.came=.loaded→j.tx.way≠.no→st.length≤31
 over:f.over=false
 fresh:j.begun=false→f.ask=.nilIface
def jC (x:Nat) (k:PCfg) (f:PF) (st cs ts:List Int) (old:List EvD) (t:TxD) (F:List Nat) (Cs:List Comp):List Comp:=pC x k f st cs ts (cEv f.ov (bare old)::cTx f.tx t F::Cs)
def JobPost (w0:World) (X:List Nat) (Cs:List Comp) (x:Nat) (k:PCfg) (f:PF) (c:CameD) (old:List EvD) (t:TxD) (nx:JNext) (w':World):Prop :=
 match nx with
 | .on j=>∃ f' st cs ts F',(PfOk f' st cs ts j∧f'.rv=f.rv)∧((f'.ask=f.ask∧f'.came=c∧(c≠.loaded→f'.sv=f.sv))∨f'.ask=.nilIface)∧Sep w0 X (jC x k f' st cs ts j.old j.tx F' Cs) w'
 | .over=>∃ f' st cs ts F',(f'.over=true∧ts.length≤16)∧Sep w0 X (jC x k f' st cs ts old t F' Cs) w'
def ComesPost (w0:World) (X:List Nat) (Cs:List Comp) (x:Nat) (k:PCfg) (f:PF) (old:List EvD) (t:TxD) (a:AnsD) (e:Ending) (w':World):Prop :=
 e=.returned (comeA a f.came.fin).val∧∃ nx,Comes k.c old t f.came.fin a nx∧JobPost w0 X Cs x k f f.came old t nx w'
theorem comes_on (hS:Sep w0 X (jC x k f st cs ts old t F Cs) w) (hok:StOk st cs ts) (hb:f.begun=true) (hcm:f.came≠.no) (hw:I64 f.word) (hnth:0≤f.nth∧f.nth≤255) (hov:f.over=false) (hl:f.came=.loaded→st.length≤31) (a:AnsD) (h3:a.kind≠3) (h4:a.kind≠4) :
   Calls Tryz.prog 43 #[ptr x,a.val] w (ComesPost w0 X Cs x k f old t a):=by
 obtain ⟨ak,ae,av,aac⟩:=a
 simp only at h3 h4
 have S1:Sep w0 X (jC x k f st cs ts old t F (cBlk w.heap.size (ansO ⟨ak,ae,av,aac⟩)::cBlk (w.heap.size+1) ans0::Cs)) ((w.alloc (ansO ⟨ak,ae,av,aac⟩)).alloc ans0):=by
   have h:=((hS.new (ansO ⟨ak,ae,av,aac⟩)).new ans0).sw
   rw [show (w.alloc (ansO ⟨ak,ae,av,aac⟩)).heap.size=w.heap.size+1 by simp] at h
   exact Sep.turn [_,_] [_,_,_,_,_,_,_] h
 have HP:=kH (Phase_c (S1.pull [_,_,_,_,_,_]))
 have HS1:=kH S1
 have HS0:=kH hS
 have hlt:=heap_lt hS.h0
 have c12:=S1.cell 12
 have c14:=hS.cell 14
 have f14:=hS.froz 14
 simp only [progA,gA,gZ,gS] at c12 c14
 have e3:(ak == 3)=false:=beq_eq_false_iff_ne.2 h3
 have e4:(ak == 4)=false:=beq_eq_false_iff_ne.2 h4
 have HQ:=kH (show ∀ b,Comes k.c old t f.came.fin ⟨ak,ae,av,aac⟩ (.on ⟨t,true,f.came.fin,old⟩)∧comeA ⟨ak,ae,av,aac⟩ f.came.fin=⟨ak,ae,0,aac⟩∧PfOk { f with published:=b } st cs ts ⟨t,true,f.came.fin,old⟩ from fun b=>⟨.on h4 (fun h=>h3 h.1),by unfold comeA;simp [h3],hok,hb,fun _=>⟨rfl,hcm⟩,hw,hnth,fun h _=>hl h,hov,fun h=>by simp at h⟩)
 clear hS S1 hok h3 h4 hb hcm hw hnth hov hl
 unfold AnsD.val ansO ans0 ptr at *
 generalize hpb:f.published=pb at c14
 have HPB:=kH hpb
 clear hpb
 cases pb
 · go_enter Tryz.func43,Tryz.ntmps43
   go_wp2_with fail
   refine HP.out.mono ?_
   rintro e w1 ⟨rfl,F',S2⟩
   have S3:Sep w0 X (jC x k f st cs ts old t F' (cBlk w.heap.size (ansO ⟨ak,ae,av,aac⟩)::cBlk (w.heap.size+1) ans0::Cs)) w1:=S2.push [_,_,_,_,_,_]
   have d14:=S3.cell 14
   have g14:=S3.froz 14
   simp only [progA,gA,gZ,gS] at d14
   have hbx:=fun j=>(S3.pull [_,_,_,_,_,_,_]).cell j
   have hbf:=fun j=>(S3.pull [_,_,_,_,_,_,_]).froz j
   have b0:=hbx 0
   have b1:=hbx 1
   have b2:=hbx 2
   have b3:=hbx 3
   have z0:=hbf 0
   have z1:=hbf 1
   have z2:=hbf 2
   simp only [gA,gZ,gS] at b0 b1 b2 b3
   have S4:=S3.pull [_,_,_,_,_,_,_,_]
   obtain ⟨⟨a0,a1,a2,a3⟩,⟨i0,i1,i2,i3⟩⟩:=S4.ansBox
   have hne:x≠w.heap.size:=Nat.ne_of_lt hlt
   have hne2:x≠w.heap.size+1:=by omega
   have HS3:=kH S3
   generalize t.phase=ph at *
   clear S2 S3 S4 hbx hbf
   go_wp2
   obtain ⟨q1,q2,q3⟩:=HQ.out (ph == 5)
   refine Sep.ret ⟨ak,ae,0,aac⟩ rfl ((Sep.pPub HS3.out (ph == 5)).pull [_,_,_,_,_,_,_,_]) rfl rfl fun W' SF=>⟨by rw [q2],_,q1,_,st,cs,ts,F',⟨q3,rfl⟩,.inl ⟨rfl,rfl,fun _=>rfl⟩,?_⟩
   exact (SF.pull [_,_,_,_,_,_,_]).drop
 · go_enter Tryz.func43,Tryz.ntmps43
   go_wp2
   obtain ⟨q1,q2,q3⟩:=HQ.out true
   refine Sep.retNew ⟨ak,ae,0,aac⟩ rfl ((Sep.pPub HS0.out true).alloc _) (by simp) rfl fun W' SF=>⟨by rw [q2],_,q1,_,st,cs,ts,F,⟨q3,rfl⟩,.inl ⟨rfl,rfl,fun _=>rfl⟩,SF⟩
end
section
open Go.RowKit
variable {w0:World} {X:List Nat} {Cs:List Comp} {w:World} {x:Nat} {k:PCfg} {f:PF} {st cs ts:List Int} {t:TxD} {F:List Nat} {old:List EvD}
def CamePost (w0:World) (X:List Nat) (Cs:List Comp) (x:Nat) (k:PCfg) (f:PF) (cs ts:List Int) (r:Bool) (e:Ending) (w':World):Prop :=
 e=.returned (.bool r)∧∃ sv at_ wd st',(StOk st' cs ts∧(f.came≠.loaded→sv=f.sv))∧I64 wd∧Sep w0 X (pC x k { f with sv:=sv,at_:=at_,word:=wd } st' cs ts Cs) w'
theorem nothing_came (hS:Sep w0 X (pC x k f st cs ts Cs) w) (hok:StOk st cs ts) (hw:I64 f.word) (v:Int) :
   Calls Tryz.prog 41 #[ptr x,.int .i64 v] w (CamePost w0 X Cs x k f cs ts false):=by
 have HS:=kH hS
 clear hS
 go_enter Tryz.func41,Tryz.ntmps41
 go_wp2
 go_ret
 exact ⟨rfl,f.sv,f.at_,f.word,st,⟨hok,fun _=>rfl⟩,hw,HS.out⟩
theorem ends_came (hS:Sep w0 X (pC x k f st cs ts Cs) w) (hok:StOk st cs ts) (hw:I64 f.word) (v:Int) :
   Calls Tryz.prog 66 #[ptr x,.int .i64 v] w (CamePost w0 X Cs x k f cs ts true):=by
 have HS:=kH hS
 clear hS
 go_enter Tryz.func66,Tryz.ntmps66
 go_wp2
 go_ret
 exact ⟨rfl,f.sv,f.at_,f.word,st,⟨hok,fun _=>rfl⟩,hw,HS.out⟩
theorem Sep.pWord (h:Sep w0 X (cBlk x (progO k f)::Cs) w) (v:Int):Sep w0 X (cBlk x (progO k { f with word:=v })::Cs) (w.setCell ⟨x,21,none⟩ (.int .i64 v)):=h.pset 21 _ (by simp [progA])
theorem heard_came (hS:Sep w0 X (pC x k f st cs ts Cs) w) (hok:StOk st cs ts) (v:Int) (hv:I64 v) :
   Calls Tryz.prog 61 #[ptr x,.int .i64 v] w (CamePost w0 X Cs x k f cs ts false):=by
 have HS:=kH hS
 have c21:=hS.cell 21
 have f21:=hS.froz 21
 simp only [progA,gA,gZ,gS] at c21
 clear hS
 unfold ptr at *
 go_enter Tryz.func61,Tryz.ntmps61
 go_wp2
 go_ret
 exact ⟨rfl,f.sv,f.at_,v,st,⟨hok,fun _=>rfl⟩,hv,Sep.pWord HS.out v⟩
theorem loaded_came (hS:Sep w0 X (pC x k f st cs ts Cs) w) (hok:StOk st cs ts) (hw:I64 f.word) (hl:st.length≤31) (hcl:f.came=.loaded) (v:Int) (hv:I64 v) :
   Calls Tryz.prog 69 #[ptr x,.int .i64 v] w (CamePost w0 X Cs x k f cs ts false):=by
 have HP:=kH (push_pC hS v (by omega))
 have HOK:=kH (stOk_add hok (by omega) hv)
 clear hS hok
 unfold ptr at *
 go_enter Tryz.func69,Tryz.ntmps69
 go_wp2_with fail
 refine HP.out.mono ?_
 rintro e w1 ⟨rfl,sv',S1⟩
 have c15:=S1.cell 15
 have f15:=S1.froz 15
 simp only [progA,gA,gZ,gS] at c15
 generalize hat:f.at_=at_ at c15
 have HS1:=kH S1
 clear S1 hat
 go_wp2
 go_ret
 have S9:=Sep.pAt HS1.out (wrap64 (at_+1))
 exact ⟨rfl,sv',wrap64 (at_+1),f.word,_,⟨HOK.out,fun h=>absurd hcl h⟩,hw,S9⟩
theorem came_calls (hc:f.came≠.no):∃ n,f.came.val=.func (.func n) #[] #[]∧(∀ (a:Array Value) (W:World),(callFunc n a).run Tryz.prog W=.ok (.enter n a) W) ∧
   ∀ (w0:World) (X:List Nat) (Cs:List Comp) (w:World) (x:Nat) (b:Bool) (st cs ts:List Int) (v:Int),Sep w0 X (pC x k { f with published:=b } st cs ts Cs) w→StOk st cs ts→I64 f.word→(f.came=.loaded→st.length≤31)→I64 v→Calls Tryz.prog n #[ptr x,.int .i64 v] w (CamePost w0 X Cs x k { f with published:=b } cs ts f.came.fin):=by
 match h:f.came,hc with
 | .nothing,_=>exact ⟨_,rfl,fun _ _=>by kernel_rfl,fun _ _ _ _ _ _ _ _ _ v hS hok hw _ _=>nothing_came hS hok hw v⟩
 | .ends,_=>exact ⟨_,rfl,fun _ _=>by kernel_rfl,fun _ _ _ _ _ _ _ _ _ v hS hok hw _ _=>ends_came hS hok hw v⟩
 | .loaded,_=>exact ⟨_,rfl,fun _ _=>by kernel_rfl,fun _ _ _ _ _ _ _ _ _ v hS hok hw hl hv=>loaded_came hS hok hw (hl rfl) rfl v hv⟩
 | .heard,_=>exact ⟨_,rfl,fun _ _=>by kernel_rfl,fun _ _ _ _ _ _ _ _ _ v hS hok _ _ hv=>heard_came hS hok v hv⟩
end
section
open Go.RowKit
variable {w0:World} {X:List Nat} {Cs:List Comp} {w:World} {x:Nat} {k:PCfg} {f:PF} {st cs ts:List Int} {t:TxD} {F:List Nat} {old:List EvD}
theorem Sep.pOver (h:Sep w0 X (cBlk x (progO k f)::Cs) w) (b:Bool):Sep w0 X (cBlk x (progO k { f with over:=b })::Cs) (w.setCell ⟨x,23,none⟩ (.bool b)):=h.pset 23 _ (by simp [progA])
theorem comes_done (hS:Sep w0 X (jC x k f st cs ts old t F Cs) w) (hok:StOk st cs ts) (hb:f.begun=true) (hcm:f.came≠.no) (hw:I64 f.word) (hnth:0≤f.nth∧f.nth≤255) (hl:f.came=.loaded→st.length≤31) (hway:t.way=.no) (ae av:Int) (aac:Bool) (hv:I64 av) :
   Calls Tryz.prog 43 #[ptr x,(⟨3,ae,av,aac⟩:AnsD).val] w (ComesPost w0 X Cs x k f old t ⟨3,ae,av,aac⟩):=by
 have S1:Sep w0 X (jC x k f st cs ts old t F (cBlk w.heap.size (ansO ⟨3,ae,av,aac⟩)::cBlk (w.heap.size+1) ans0::Cs)) ((w.alloc (ansO ⟨3,ae,av,aac⟩)).alloc ans0):=by
   have h:=((hS.new (ansO ⟨3,ae,av,aac⟩)).new ans0).sw
   rw [show (w.alloc (ansO ⟨3,ae,av,aac⟩)).heap.size=w.heap.size+1 by simp] at h
   exact Sep.turn [_,_] [_,_,_,_,_,_,_] h
 have HP:=kH (Phase_c (S1.pull [_,_,_,_,_,_]))
 have HS1:=kH S1
 have HS0:=kH hS
 have hlt:=heap_lt hS.h0
 have c12:=S1.cell 12
 have c14:=hS.cell 14
 have f14:=hS.froz 14
 simp only [progA,gA,gZ,gS] at c12 c14
 obtain ⟨n,hfv,hrun,hcall⟩:=came_calls (k:=k) hcm
 have HFV:=kH hfv
 have HCL:=kH hcall
 clear hcall hfv
 clear hS S1
 unfold AnsD.val ansO ans0 ptr at *
 generalize hpb:f.published=pb at c14
 have HPB:=kH hpb
 clear hpb
 generalize hfn:f.came.fin=fn at *
 have HFN:=kH hfn
 clear hfn
 cases pb
 · go_enter Tryz.func43,Tryz.ntmps43
   go_wp2_with fail
   refine HP.out.mono ?_
   rintro e w1 ⟨rfl,F',S2⟩
   have S3:Sep w0 X (jC x k f st cs ts old t F' (cBlk w.heap.size (ansO ⟨3,ae,av,aac⟩)::cBlk (w.heap.size+1) ans0::Cs)) w1:=S2.push [_,_,_,_,_,_]
   have d14:=S3.cell 14
   have g14:=S3.froz 14
   simp only [progA,gA,gZ,gS] at d14
   generalize t.phase=ph at *
   have S4:=Sep.pPub S3 (ph == 5)
   have d19:=S3.cell 19
   have hne:x≠w.heap.size:=Nat.ne_of_lt hlt
   have hne2:x≠w.heap.size+1:=by omega
   simp only [progA,HFV.out,gA,gZ,gS] at d19
   have hbx:=fun j=>(S3.pull [_,_,_,_,_,_,_]).cell j
   have b0:=hbx 0
   have b2:=hbx 2
   simp only [gA,gZ,gS] at b0 b2
   have HCC:=kH (fun q=>HCL.out _ _ _ _ _ _ _ _ _ av (S4.drewN q) hok hw hl hv)
   have HS4:=kH S4
   clear S2 S3 S4 hbx
   go_wp2_with fail
   generalize hW2:w1.setCell ⟨x,14,none⟩ (.bool (ph == 5))=W2 at *
   have HW2:=kH hW2
   clear hW2
   have e19:=HS4.out.cell 19
   have c2:=(HS4.out.pull [_,_,_,_,_,_,_]).cell 2
   simp only [progA,HFV.out,gA,gZ,gS] at e19 c2
   go_region_held3 (fun w'=>w'.cell? ⟨x,19,none⟩=some (.func (.func n) #[] #[])∧w'.cell? ⟨w.heap.size,2,none⟩=some (.int .i64 av)) (first | (go_keep;done) | ((try dsimp only);(refine ⟨?_,?_⟩ <;> (first | (go_keep;done) | (simp [*,cell_off];done))))) ((refine (HCC.out _).mono ?_;rintro e5 w5 ⟨rfl,sv,at_,wd,st',hok',hwd,S5⟩;have k19:=S5.cell 19;have k23:=S5.cell 23;have j23:=S5.froz 23;have hby:=fun j=>(S5.pull [_,_,_,_,_,_,_]).cell j;have y2:=hby 2;simp only [progA,HFV.out,gA,gZ,gS] at k19 k23 y2;have HS5:=kH S5;have HOK5:=kH hok';have HWD5:=kH hwd;clear S5 hby hok' hwd))
   have S6:=HS5.out.pOver fn
   generalize w5.setCell ⟨x,23,none⟩ (.bool fn)=w6 at *
   have k23':=S6.cell 23
   have hby:=fun j=>(S6.pull [_,_,_,_,_,_,_]).cell j
   have hbf:=fun j=>(S6.pull [_,_,_,_,_,_,_]).froz j
   have y0:=hby 0
   have y1:=hby 1
   have y2':=hby 2
   have y3:=hby 3
   have z0:=hbf 0
   have z2:=hbf 2
   simp only [progA,gA,gZ,gS] at k23' y0 y1 y2' y3
   obtain ⟨⟨a0,a1,a2,a3⟩,⟨i0,i1,i2,i3⟩⟩:=(S6.pull [_,_,_,_,_,_,_,_]).ansBox
   have HS6:=kH S6
   clear S6 hby hbf
   cases fn
   · go_wp2
     have hq:=HFN.out
     have S7:Sep w0 X (pC x k _ st' cs ts (cEv f.ov (bare old)::cTx f.tx t _::cBlk w.heap.size _::cBlk (w.heap.size+1) ans0::Cs)) _:=HS6.out
     have S8:=(((S7.pull [_,_,_,_,_,_,_]).set 0 (.int .i64 2)).set 2 (.int .i64 0)).drop.pull [_,_,_,_,_,_,_]
     refine Sep.ret ⟨2,ae,0,aac⟩ rfl S8 rfl rfl fun W' SF=>?_
     unfold ComesPost
     rw [hq]
     refine ⟨by simp [comeA],.on ⟨t,true,false,old⟩,.on (by simp) (by simp),{ f with published:=(ph == 5),at_:=at_,sv:=sv,word:=wd,over:=false },st',cs,ts,_,⟨⟨HOK5.out.1,hb,fun _=>⟨hq,hcm⟩,HWD5.out,hnth,fun _ h=>absurd hway h,rfl,fun h=>by simp at h⟩,rfl⟩,.inl ⟨rfl,rfl,HOK5.out.2⟩,SF⟩
   · go_wp2
     have hq:=HFN.out
     have S7:Sep w0 X (pC x k _ st' cs ts (cEv f.ov (bare old)::cTx f.tx t _::cBlk w.heap.size _::cBlk (w.heap.size+1) ans0::Cs)) _:=HS6.out
     have S8:=((S7.pull [_,_,_,_,_,_,_]).set 2 (.int .i64 0)).drop.pull [_,_,_,_,_,_,_]
     refine Sep.ret ⟨3,ae,0,aac⟩ rfl S8 rfl rfl fun W' SF=>?_
     unfold ComesPost
     rw [hq]
     exact ⟨by simp [comeA],.over,.done rfl rfl,{ f with published:=(ph == 5),at_:=at_,sv:=sv,word:=wd,over:=true },st',cs,ts,_,⟨rfl,HOK5.out.1.tsl⟩,SF⟩
 · go_enter Tryz.func43,Tryz.ntmps43
   go_wp2_with fail
   have S4:Sep w0 X (jC x k { f with published:=true } st cs ts old t F (cBlk w.heap.size (ansO ⟨3,ae,av,aac⟩)::cBlk (w.heap.size+1) ans0::Cs)) (((w.setCell ⟨x,14,none⟩ (.bool true)).alloc (ansO ⟨3,ae,av,aac⟩)).alloc ans0):=by
     have h:=(((Sep.pPub HS0.out true).new (ansO ⟨3,ae,av,aac⟩)).new ans0).sw
     rw [show ((w.setCell ⟨x,14,none⟩ (.bool true)).alloc (ansO ⟨3,ae,av,aac⟩)).heap.size=w.heap.size+1 by simp,show (w.setCell ⟨x,14,none⟩ (.bool true)).heap.size=w.heap.size by simp] at h
     exact Sep.turn [_,_] [_,_,_,_,_,_,_] h
   have hne:x≠w.heap.size:=Nat.ne_of_lt hlt
   have hne2:x≠w.heap.size+1:=by omega
   have d19:=HS0.out.cell 19
   simp only [progA,HFV.out,gA,gZ,gS] at d19
   have HCC:=kH (fun q=>HCL.out _ _ _ _ _ _ _ _ _ av (S4.drewN q) hok hw hl hv)
   have HS4:=kH S4
   unfold ansO ans0 at HS4 HCC
   simp only at HS4 HCC
   clear S4
   generalize hW2:((w.setCell ⟨x,14,none⟩ (.bool true)).alloc (.cells #[.int .i64 3,.int .i64 ae,.int .i64 av,.bool aac] 35 (0,0))).alloc (.cells #[.int .i64 0,.int .i64 0,.int .i64 0,.bool false] 35 (0,0))=W2 at *
   have HW2:=kH hW2
   clear hW2
   have e19:=HS4.out.cell 19
   have c2:=(HS4.out.pull [_,_,_,_,_,_,_]).cell 2
   simp only [progA,HFV.out,gA,gZ,gS] at e19 c2
   go_region_held3 (fun w'=>w'.cell? ⟨x,19,none⟩=some (.func (.func n) #[] #[])∧w'.cell? ⟨w.heap.size,2,none⟩=some (.int .i64 av)) (first | (go_keep;done) | ((try dsimp only);(refine ⟨?_,?_⟩ <;> (first | (go_keep;done) | (simp [*,cell_off];done))))) ((refine (HCC.out _).mono ?_;rintro e5 w5 ⟨rfl,sv,at_,wd,st',hok',hwd,S5⟩;have k19:=S5.cell 19;have k23:=S5.cell 23;have j23:=S5.froz 23;have hby:=fun j=>(S5.pull [_,_,_,_,_,_,_]).cell j;have y2:=hby 2;simp only [progA,HFV.out,gA,gZ,gS] at k19 k23 y2;have HS5:=kH S5;have HOK5:=kH hok';have HWD5:=kH hwd;clear S5 hby hok' hwd))
   have S6:=HS5.out.pOver fn
   generalize w5.setCell ⟨x,23,none⟩ (.bool fn)=w6 at *
   have k23':=S6.cell 23
   have hby:=fun j=>(S6.pull [_,_,_,_,_,_,_]).cell j
   have hbf:=fun j=>(S6.pull [_,_,_,_,_,_,_]).froz j
   have y0:=hby 0
   have y1:=hby 1
   have y2':=hby 2
   have y3:=hby 3
   have z0:=hbf 0
   have z2:=hbf 2
   simp only [progA,gA,gZ,gS] at k23' y0 y1 y2' y3
   obtain ⟨⟨a0,a1,a2,a3⟩,⟨i0,i1,i2,i3⟩⟩:=(S6.pull [_,_,_,_,_,_,_,_]).ansBox
   have HS6:=kH S6
   clear S6 hby hbf
   cases fn
   · go_wp2
     have hq:=HFN.out
     have S7:Sep w0 X (pC x k _ st' cs ts (cEv f.ov (bare old)::cTx f.tx t _::cBlk w.heap.size _::cBlk (w.heap.size+1) ans0::Cs)) _:=HS6.out
     have S8:=(((S7.pull [_,_,_,_,_,_,_]).set 0 (.int .i64 2)).set 2 (.int .i64 0)).drop.pull [_,_,_,_,_,_,_]
     refine Sep.ret ⟨2,ae,0,aac⟩ rfl S8 rfl rfl fun W' SF=>?_
     unfold ComesPost
     rw [hq]
     refine ⟨by simp [comeA],.on ⟨t,true,false,old⟩,.on (by simp) (by simp),{ f with published:=true,at_:=at_,sv:=sv,word:=wd,over:=false },st',cs,ts,_,⟨⟨HOK5.out.1,hb,fun _=>⟨hq,hcm⟩,HWD5.out,hnth,fun _ h=>absurd hway h,rfl,fun h=>by simp at h⟩,rfl⟩,.inl ⟨rfl,rfl,HOK5.out.2⟩,SF⟩
   · go_wp2
     have hq:=HFN.out
     have S7:Sep w0 X (pC x k _ st' cs ts (cEv f.ov (bare old)::cTx f.tx t _::cBlk w.heap.size _::cBlk (w.heap.size+1) ans0::Cs)) _:=HS6.out
     have S8:=((S7.pull [_,_,_,_,_,_,_]).set 2 (.int .i64 0)).drop.pull [_,_,_,_,_,_,_]
     refine Sep.ret ⟨3,ae,0,aac⟩ rfl S8 rfl rfl fun W' SF=>?_
     unfold ComesPost
     rw [hq]
     exact ⟨by simp [comeA],.over,.done rfl rfl,{ f with published:=true,at_:=at_,sv:=sv,word:=wd,over:=true },st',cs,ts,_,⟨rfl,HOK5.out.1.tsl⟩,SF⟩
end
section
open Go.RowKit
variable {w0:World} {X:List Nat} {Cs:List Comp} {w:World} {x:Nat} {k:PCfg} {f:PF} {st cs ts:List Int} {t:TxD} {F:List Nat} {old:List EvD}
theorem Sep.pErr (h:Sep w0 X (cBlk x (progO k f)::Cs) w) (v:Int):Sep w0 X (cBlk x (progO k { f with err:=v })::Cs) (w.setCell ⟨x,24,none⟩ (.int .i64 v)):=h.pset 24 _ (by simp [progA])
theorem stOk_nil:StOk [] [] []:=⟨by simp,by simp,by simp,fun _ h=>nomatch h⟩
theorem comes_over1 (hS:Sep w0 X (jC x k f st cs ts old t F Cs) w) (hts:ts.length≤16) (hc:CfgOk k.c) (hn:0 < t.told.length∧t.told.length≤1073741824) (ho:old.length+t.told.length≤1073741824) (hnth:0≤f.nth∧f.nth≤255) (hkt:k.tries≤255) (hov:f.over=false) (ae av:Int) (aac:Bool) (e3:(ae == 3)=false) (e4:(ae == 4)=false) :
   Calls Tryz.prog 43 #[ptr x,(⟨4,ae,av,aac⟩:AnsD).val] w (ComesPost w0 X Cs x k f old t ⟨4,ae,av,aac⟩):=by
 have S1:Sep w0 X (jC x k f st cs ts old t F (cBlk w.heap.size (ansO ⟨4,ae,av,aac⟩)::cBlk (w.heap.size+1) ans0::Cs)) ((w.alloc (ansO ⟨4,ae,av,aac⟩)).alloc ans0):=by
   have h:=((hS.new (ansO ⟨4,ae,av,aac⟩)).new ans0).sw
   rw [show (w.alloc (ansO ⟨4,ae,av,aac⟩)).heap.size=w.heap.size+1 by simp] at h
   exact Sep.turn [_,_] [_,_,_,_,_,_,_] h
 have HP:=kH (Phase_c (S1.pull [_,_,_,_,_,_]))
 have HS0:=kH hS
 have HC:=kH hc
 have HNL:=kH hn
 have HOL:=kH ho
 have HNT:=kH hnth
 have hlt:=heap_lt hS.h0
 have c12:=S1.cell 12
 have c14:=hS.cell 14
 have f14:=hS.froz 14
 simp only [progA,gA,gZ,gS] at c12 c14
 have hne:x≠w.heap.size:=Nat.ne_of_lt hlt
 have hne2:x≠w.heap.size+1:=by omega
 clear hS S1 hc hn ho
 unfold AnsD.val ansO ans0 ptr at *
 generalize hpb:f.published=pb at c14
 have HPB:=kH hpb
 clear hpb
 cases pb
 · go_enter Tryz.func43,Tryz.ntmps43
   go_wp2_with fail
   refine HP.out.mono ?_
   rintro e w1 ⟨rfl,F',S2⟩
   have S3:Sep w0 X (jC x k f st cs ts old t F' (cBlk w.heap.size (ansO ⟨4,ae,av,aac⟩)::cBlk (w.heap.size+1) ans0::Cs)) w1:=S2.push [_,_,_,_,_,_]
   have d14:=S3.cell 14
   have g14:=S3.froz 14
   have b0:=(S3.pull [_,_,_,_,_,_,_]).cell 0
   simp only [progA,gA,gZ,gS] at d14 b0
   generalize t.phase=ph at *
   have S4:=Sep.pPub S3 (ph == 5)
   have HS4:=kH S4
   clear S2 S3 S4
   go_wp2_with fail
   generalize hW2:w1.setCell ⟨x,14,none⟩ (.bool (ph == 5))=W2 at *
   have HW2:=kH hW2
   clear hW2
   have e0:=HS4.out.cell 5
   have e5:=HS4.out.cell 11
   have e23:=HS4.out.cell 23
   have e24:=HS4.out.cell 24
   have g23:=HS4.out.froz 23
   have g24:=HS4.out.froz 24
   have hby:=fun j=>(HS4.out.pull [_,_,_,_,_,_,_]).cell j
   have hbf:=fun j=>(HS4.out.pull [_,_,_,_,_,_,_]).froz j
   have y0:=hby 0
   have y1:=hby 1
   have y3:=hby 3
   simp only [progA,gA,gZ,gS] at e0 e5 e23 e24 y0 y1 y3
   obtain ⟨⟨a0,a1,a2,a3⟩,⟨i0,i1,i2,i3⟩⟩:=(HS4.out.pull [_,_,_,_,_,_,_,_]).ansBox
   clear hby hbf
   go_wp2_with fail
   go_quiet (fail)
   go_wp2_with fail
   go_region
   have S6:=(Sep.pErr (Sep.pOver (HS4.out.drewN nq) true) ae).drew
   have S7:=S6.pull [_,_,_,_,_,_,_,_]
   have HS7:=kH S7
   clear S6 S7
   go_wp2
   refine Sep.ret ⟨4,ae,0,aac⟩ rfl HS7.out rfl rfl fun W' SF=>⟨by simp [comeA],.over,.fail rfl,{ f with published:=(ph == 5),over:=true,err:=ae },st,cs,ts,_,⟨rfl,hts⟩,(SF.pull [_,_,_,_,_,_,_]).drop⟩
 · go_enter Tryz.func43,Tryz.ntmps43
   go_wp2_with fail
   have S4:Sep w0 X (jC x k { f with published:=true } st cs ts old t F (cBlk w.heap.size (ansO ⟨4,ae,av,aac⟩)::cBlk (w.heap.size+1) ans0::Cs)) (((w.setCell ⟨x,14,none⟩ (.bool true)).alloc (ansO ⟨4,ae,av,aac⟩)).alloc ans0):=by
     have h:=(((Sep.pPub HS0.out true).new (ansO ⟨4,ae,av,aac⟩)).new ans0).sw
     rw [show ((w.setCell ⟨x,14,none⟩ (.bool true)).alloc (ansO ⟨4,ae,av,aac⟩)).heap.size=w.heap.size+1 by simp,show (w.setCell ⟨x,14,none⟩ (.bool true)).heap.size=w.heap.size by simp] at h
     exact Sep.turn [_,_] [_,_,_,_,_,_,_] h
   have HS4:=kH S4
   unfold ansO ans0 at HS4
   simp only at HS4
   clear S4
   generalize hW2:((w.setCell ⟨x,14,none⟩ (.bool true)).alloc (.cells #[.int .i64 4,.int .i64 ae,.int .i64 av,.bool aac] 35 (0,0))).alloc (.cells #[.int .i64 0,.int .i64 0,.int .i64 0,.bool false] 35 (0,0))=W2 at *
   have HW2:=kH hW2
   clear hW2
   have e0:=HS4.out.cell 5
   have e5:=HS4.out.cell 11
   have e23:=HS4.out.cell 23
   have e24:=HS4.out.cell 24
   have g23:=HS4.out.froz 23
   have g24:=HS4.out.froz 24
   have hby:=fun j=>(HS4.out.pull [_,_,_,_,_,_,_]).cell j
   have hbf:=fun j=>(HS4.out.pull [_,_,_,_,_,_,_]).froz j
   have y0:=hby 0
   have y1:=hby 1
   have y3:=hby 3
   simp only [progA,gA,gZ,gS] at e0 e5 e23 e24 y0 y1 y3
   obtain ⟨⟨a0,a1,a2,a3⟩,⟨i0,i1,i2,i3⟩⟩:=(HS4.out.pull [_,_,_,_,_,_,_,_]).ansBox
   clear hby hbf
   go_wp2_with fail
   go_quiet (fail)
   go_wp2_with fail
   go_region
   have S6:=(Sep.pErr (Sep.pOver (HS4.out.drewN nq) true) ae).drew
   have S7:=S6.pull [_,_,_,_,_,_,_,_]
   have HS7:=kH S7
   clear S6 S7
   go_wp2
   refine Sep.ret ⟨4,ae,0,aac⟩ rfl HS7.out rfl rfl fun W' SF=>⟨by simp [comeA],.over,.fail rfl,{ f with published:=true,over:=true,err:=ae },st,cs,ts,_,⟨rfl,hts⟩,(SF.pull [_,_,_,_,_,_,_]).drop⟩
theorem comes_over2 (hS:Sep w0 X (jC x k f st cs ts old t F Cs) w) (hts:ts.length≤16) (hc:CfgOk k.c) (hn:0 < t.told.length∧t.told.length≤1073741824) (ho:old.length+t.told.length≤1073741824) (hnth:0≤f.nth∧f.nth≤255) (hkt:k.tries≤255) (hov:f.over=false) (ae av:Int) (aac:Bool) (e3:(ae == 3)=true) (hlt9:decide (f.nth < k.tries)=false) :
   Calls Tryz.prog 43 #[ptr x,(⟨4,ae,av,aac⟩:AnsD).val] w (ComesPost w0 X Cs x k f old t ⟨4,ae,av,aac⟩):=by
 have S1:Sep w0 X (jC x k f st cs ts old t F (cBlk w.heap.size (ansO ⟨4,ae,av,aac⟩)::cBlk (w.heap.size+1) ans0::Cs)) ((w.alloc (ansO ⟨4,ae,av,aac⟩)).alloc ans0):=by
   have h:=((hS.new (ansO ⟨4,ae,av,aac⟩)).new ans0).sw
   rw [show (w.alloc (ansO ⟨4,ae,av,aac⟩)).heap.size=w.heap.size+1 by simp] at h
   exact Sep.turn [_,_] [_,_,_,_,_,_,_] h
 have HP:=kH (Phase_c (S1.pull [_,_,_,_,_,_]))
 have HS0:=kH hS
 have HC:=kH hc
 have HNL:=kH hn
 have HOL:=kH ho
 have HNT:=kH hnth
 have hlt:=heap_lt hS.h0
 have c12:=S1.cell 12
 have c14:=hS.cell 14
 have f14:=hS.froz 14
 simp only [progA,gA,gZ,gS] at c12 c14
 have hne:x≠w.heap.size:=Nat.ne_of_lt hlt
 have hne2:x≠w.heap.size+1:=by omega
 clear hS S1 hc hn ho
 unfold AnsD.val ansO ans0 ptr at *
 generalize hpb:f.published=pb at c14
 have HPB:=kH hpb
 clear hpb
 cases pb
 · go_enter Tryz.func43,Tryz.ntmps43
   go_wp2_with fail
   refine HP.out.mono ?_
   rintro e w1 ⟨rfl,F',S2⟩
   have S3:Sep w0 X (jC x k f st cs ts old t F' (cBlk w.heap.size (ansO ⟨4,ae,av,aac⟩)::cBlk (w.heap.size+1) ans0::Cs)) w1:=S2.push [_,_,_,_,_,_]
   have d14:=S3.cell 14
   have g14:=S3.froz 14
   have b0:=(S3.pull [_,_,_,_,_,_,_]).cell 0
   simp only [progA,gA,gZ,gS] at d14 b0
   generalize t.phase=ph at *
   have S4:=Sep.pPub S3 (ph == 5)
   have HS4:=kH S4
   clear S2 S3 S4
   go_wp2_with fail
   generalize hW2:w1.setCell ⟨x,14,none⟩ (.bool (ph == 5))=W2 at *
   have HW2:=kH hW2
   clear hW2
   have e0:=HS4.out.cell 5
   have e5:=HS4.out.cell 11
   have e23:=HS4.out.cell 23
   have e24:=HS4.out.cell 24
   have g23:=HS4.out.froz 23
   have g24:=HS4.out.froz 24
   have hby:=fun j=>(HS4.out.pull [_,_,_,_,_,_,_]).cell j
   have hbf:=fun j=>(HS4.out.pull [_,_,_,_,_,_,_]).froz j
   have y0:=hby 0
   have y1:=hby 1
   have y3:=hby 3
   simp only [progA,gA,gZ,gS] at e0 e5 e23 e24 y0 y1 y3
   obtain ⟨⟨a0,a1,a2,a3⟩,⟨i0,i1,i2,i3⟩⟩:=(HS4.out.pull [_,_,_,_,_,_,_,_]).ansBox
   clear hby hbf
   go_wp2_with fail
   go_quiet (fail)
   go_wp2_with fail
   go_region
   have S6:=(Sep.pErr (Sep.pOver (HS4.out.drewN nq) true) ae).drew
   have S7:=S6.pull [_,_,_,_,_,_,_,_]
   have HS7:=kH S7
   clear S6 S7
   go_wp2
   refine Sep.ret ⟨4,ae,0,aac⟩ rfl HS7.out rfl rfl fun W' SF=>⟨by simp [comeA],.over,.fail rfl,{ f with published:=(ph == 5),over:=true,err:=ae },st,cs,ts,_,⟨rfl,hts⟩,(SF.pull [_,_,_,_,_,_,_]).drop⟩
 · go_enter Tryz.func43,Tryz.ntmps43
   go_wp2_with fail
   have S4:Sep w0 X (jC x k { f with published:=true } st cs ts old t F (cBlk w.heap.size (ansO ⟨4,ae,av,aac⟩)::cBlk (w.heap.size+1) ans0::Cs)) (((w.setCell ⟨x,14,none⟩ (.bool true)).alloc (ansO ⟨4,ae,av,aac⟩)).alloc ans0):=by
     have h:=(((Sep.pPub HS0.out true).new (ansO ⟨4,ae,av,aac⟩)).new ans0).sw
     rw [show ((w.setCell ⟨x,14,none⟩ (.bool true)).alloc (ansO ⟨4,ae,av,aac⟩)).heap.size=w.heap.size+1 by simp,show (w.setCell ⟨x,14,none⟩ (.bool true)).heap.size=w.heap.size by simp] at h
     exact Sep.turn [_,_] [_,_,_,_,_,_,_] h
   have HS4:=kH S4
   unfold ansO ans0 at HS4
   simp only at HS4
   clear S4
   generalize hW2:((w.setCell ⟨x,14,none⟩ (.bool true)).alloc (.cells #[.int .i64 4,.int .i64 ae,.int .i64 av,.bool aac] 35 (0,0))).alloc (.cells #[.int .i64 0,.int .i64 0,.int .i64 0,.bool false] 35 (0,0))=W2 at *
   have HW2:=kH hW2
   clear hW2
   have e0:=HS4.out.cell 5
   have e5:=HS4.out.cell 11
   have e23:=HS4.out.cell 23
   have e24:=HS4.out.cell 24
   have g23:=HS4.out.froz 23
   have g24:=HS4.out.froz 24
   have hby:=fun j=>(HS4.out.pull [_,_,_,_,_,_,_]).cell j
   have hbf:=fun j=>(HS4.out.pull [_,_,_,_,_,_,_]).froz j
   have y0:=hby 0
   have y1:=hby 1
   have y3:=hby 3
   simp only [progA,gA,gZ,gS] at e0 e5 e23 e24 y0 y1 y3
   obtain ⟨⟨a0,a1,a2,a3⟩,⟨i0,i1,i2,i3⟩⟩:=(HS4.out.pull [_,_,_,_,_,_,_,_]).ansBox
   clear hby hbf
   go_wp2_with fail
   go_quiet (fail)
   go_wp2_with fail
   go_region
   have S6:=(Sep.pErr (Sep.pOver (HS4.out.drewN nq) true) ae).drew
   have S7:=S6.pull [_,_,_,_,_,_,_,_]
   have HS7:=kH S7
   clear S6 S7
   go_wp2
   refine Sep.ret ⟨4,ae,0,aac⟩ rfl HS7.out rfl rfl fun W' SF=>⟨by simp [comeA],.over,.fail rfl,{ f with published:=true,over:=true,err:=ae },st,cs,ts,_,⟨rfl,hts⟩,(SF.pull [_,_,_,_,_,_,_]).drop⟩
theorem comes_over3 (hS:Sep w0 X (jC x k f st cs ts old t F Cs) w) (hts:ts.length≤16) (hc:CfgOk k.c) (hn:0 < t.told.length∧t.told.length≤1073741824) (ho:old.length+t.told.length≤1073741824) (hnth:0≤f.nth∧f.nth≤255) (hkt:k.tries≤255) (hov:f.over=false) (ae av:Int) (aac:Bool) (e3:(ae == 3)=false) (e4:(ae == 4)=true) (hlt9:decide (f.nth < k.tries)=false) :
   Calls Tryz.prog 43 #[ptr x,(⟨4,ae,av,aac⟩:AnsD).val] w (ComesPost w0 X Cs x k f old t ⟨4,ae,av,aac⟩):=by
 have S1:Sep w0 X (jC x k f st cs ts old t F (cBlk w.heap.size (ansO ⟨4,ae,av,aac⟩)::cBlk (w.heap.size+1) ans0::Cs)) ((w.alloc (ansO ⟨4,ae,av,aac⟩)).alloc ans0):=by
   have h:=((hS.new (ansO ⟨4,ae,av,aac⟩)).new ans0).sw
   rw [show (w.alloc (ansO ⟨4,ae,av,aac⟩)).heap.size=w.heap.size+1 by simp] at h
   exact Sep.turn [_,_] [_,_,_,_,_,_,_] h
 have HP:=kH (Phase_c (S1.pull [_,_,_,_,_,_]))
 have HS0:=kH hS
 have HC:=kH hc
 have HNL:=kH hn
 have HOL:=kH ho
 have HNT:=kH hnth
 have hlt:=heap_lt hS.h0
 have c12:=S1.cell 12
 have c14:=hS.cell 14
 have f14:=hS.froz 14
 simp only [progA,gA,gZ,gS] at c12 c14
 have hne:x≠w.heap.size:=Nat.ne_of_lt hlt
 have hne2:x≠w.heap.size+1:=by omega
 clear hS S1 hc hn ho
 unfold AnsD.val ansO ans0 ptr at *
 generalize hpb:f.published=pb at c14
 have HPB:=kH hpb
 clear hpb
 cases pb
 · go_enter Tryz.func43,Tryz.ntmps43
   go_wp2_with fail
   refine HP.out.mono ?_
   rintro e w1 ⟨rfl,F',S2⟩
   have S3:Sep w0 X (jC x k f st cs ts old t F' (cBlk w.heap.size (ansO ⟨4,ae,av,aac⟩)::cBlk (w.heap.size+1) ans0::Cs)) w1:=S2.push [_,_,_,_,_,_]
   have d14:=S3.cell 14
   have g14:=S3.froz 14
   have b0:=(S3.pull [_,_,_,_,_,_,_]).cell 0
   simp only [progA,gA,gZ,gS] at d14 b0
   generalize t.phase=ph at *
   have S4:=Sep.pPub S3 (ph == 5)
   have HS4:=kH S4
   clear S2 S3 S4
   go_wp2_with fail
   generalize hW2:w1.setCell ⟨x,14,none⟩ (.bool (ph == 5))=W2 at *
   have HW2:=kH hW2
   clear hW2
   have e0:=HS4.out.cell 5
   have e5:=HS4.out.cell 11
   have e23:=HS4.out.cell 23
   have e24:=HS4.out.cell 24
   have g23:=HS4.out.froz 23
   have g24:=HS4.out.froz 24
   have hby:=fun j=>(HS4.out.pull [_,_,_,_,_,_,_]).cell j
   have hbf:=fun j=>(HS4.out.pull [_,_,_,_,_,_,_]).froz j
   have y0:=hby 0
   have y1:=hby 1
   have y3:=hby 3
   simp only [progA,gA,gZ,gS] at e0 e5 e23 e24 y0 y1 y3
   obtain ⟨⟨a0,a1,a2,a3⟩,⟨i0,i1,i2,i3⟩⟩:=(HS4.out.pull [_,_,_,_,_,_,_,_]).ansBox
   clear hby hbf
   go_wp2_with fail
   go_quiet (fail)
   go_wp2_with fail
   go_region
   have S6:=(Sep.pErr (Sep.pOver (HS4.out.drewN nq) true) ae).drew
   have S7:=S6.pull [_,_,_,_,_,_,_,_]
   have HS7:=kH S7
   clear S6 S7
   go_wp2
   refine Sep.ret ⟨4,ae,0,aac⟩ rfl HS7.out rfl rfl fun W' SF=>⟨by simp [comeA],.over,.fail rfl,{ f with published:=(ph == 5),over:=true,err:=ae },st,cs,ts,_,⟨rfl,hts⟩,(SF.pull [_,_,_,_,_,_,_]).drop⟩
 · go_enter Tryz.func43,Tryz.ntmps43
   go_wp2_with fail
   have S4:Sep w0 X (jC x k { f with published:=true } st cs ts old t F (cBlk w.heap.size (ansO ⟨4,ae,av,aac⟩)::cBlk (w.heap.size+1) ans0::Cs)) (((w.setCell ⟨x,14,none⟩ (.bool true)).alloc (ansO ⟨4,ae,av,aac⟩)).alloc ans0):=by
     have h:=(((Sep.pPub HS0.out true).new (ansO ⟨4,ae,av,aac⟩)).new ans0).sw
     rw [show ((w.setCell ⟨x,14,none⟩ (.bool true)).alloc (ansO ⟨4,ae,av,aac⟩)).heap.size=w.heap.size+1 by simp,show (w.setCell ⟨x,14,none⟩ (.bool true)).heap.size=w.heap.size by simp] at h
     exact Sep.turn [_,_] [_,_,_,_,_,_,_] h
   have HS4:=kH S4
   unfold ansO ans0 at HS4
   simp only at HS4
   clear S4
   generalize hW2:((w.setCell ⟨x,14,none⟩ (.bool true)).alloc (.cells #[.int .i64 4,.int .i64 ae,.int .i64 av,.bool aac] 35 (0,0))).alloc (.cells #[.int .i64 0,.int .i64 0,.int .i64 0,.bool false] 35 (0,0))=W2 at *
   have HW2:=kH hW2
   clear hW2
   have e0:=HS4.out.cell 5
   have e5:=HS4.out.cell 11
   have e23:=HS4.out.cell 23
   have e24:=HS4.out.cell 24
   have g23:=HS4.out.froz 23
   have g24:=HS4.out.froz 24
   have hby:=fun j=>(HS4.out.pull [_,_,_,_,_,_,_]).cell j
   have hbf:=fun j=>(HS4.out.pull [_,_,_,_,_,_,_]).froz j
   have y0:=hby 0
   have y1:=hby 1
   have y3:=hby 3
   simp only [progA,gA,gZ,gS] at e0 e5 e23 e24 y0 y1 y3
   obtain ⟨⟨a0,a1,a2,a3⟩,⟨i0,i1,i2,i3⟩⟩:=(HS4.out.pull [_,_,_,_,_,_,_,_]).ansBox
   clear hby hbf
   go_wp2_with fail
   go_quiet (fail)
   go_wp2_with fail
   go_region
   have S6:=(Sep.pErr (Sep.pOver (HS4.out.drewN nq) true) ae).drew
   have S7:=S6.pull [_,_,_,_,_,_,_,_]
   have HS7:=kH S7
   clear S6 S7
   go_wp2
   refine Sep.ret ⟨4,ae,0,aac⟩ rfl HS7.out rfl rfl fun W' SF=>⟨by simp [comeA],.over,.fail rfl,{ f with published:=true,over:=true,err:=ae },st,cs,ts,_,⟨rfl,hts⟩,(SF.pull [_,_,_,_,_,_,_]).drop⟩
theorem comes_again1 (hS:Sep w0 X (jC x k f st cs ts old t F Cs) w) (hts:ts.length≤16) (hc:CfgOk k.c) (hn:0 < t.told.length∧t.told.length≤1073741824) (ho:old.length+t.told.length≤1073741824) (hnth:0≤f.nth∧f.nth≤255) (hkt:k.tries≤255) (hov:f.over=false) (ae av:Int) (aac:Bool) (e3:(ae == 3)=true) (hlt9:decide (f.nth < k.tries)=true) :
   Calls Tryz.prog 43 #[ptr x,(⟨4,ae,av,aac⟩:AnsD).val] w (ComesPost w0 X Cs x k f old t ⟨4,ae,av,aac⟩):=by
 have S1:Sep w0 X (jC x k f st cs ts old t F (cBlk w.heap.size (ansO ⟨4,ae,av,aac⟩)::cBlk (w.heap.size+1) ans0::Cs)) ((w.alloc (ansO ⟨4,ae,av,aac⟩)).alloc ans0):=by
   have h:=((hS.new (ansO ⟨4,ae,av,aac⟩)).new ans0).sw
   rw [show (w.alloc (ansO ⟨4,ae,av,aac⟩)).heap.size=w.heap.size+1 by simp] at h
   exact Sep.turn [_,_] [_,_,_,_,_,_,_] h
 have HP:=kH (Phase_c (S1.pull [_,_,_,_,_,_]))
 have HS0:=kH hS
 have HC:=kH hc
 have HNL:=kH hn
 have HOL:=kH ho
 have HNT:=kH hnth
 have hlt:=heap_lt hS.h0
 have c12:=S1.cell 12
 have c14:=hS.cell 14
 have f14:=hS.froz 14
 simp only [progA,gA,gZ,gS] at c12 c14
 have hne:x≠w.heap.size:=Nat.ne_of_lt hlt
 have hne2:x≠w.heap.size+1:=by omega
 clear hS S1 hc hn ho
 unfold AnsD.val ansO ans0 ptr at *
 generalize hpb:f.published=pb at c14
 have HPB:=kH hpb
 clear hpb
 cases pb
 · go_enter Tryz.func43,Tryz.ntmps43
   go_wp2_with fail
   refine HP.out.mono ?_
   rintro e w1 ⟨rfl,F',S2⟩
   have S3:Sep w0 X (jC x k f st cs ts old t F' (cBlk w.heap.size (ansO ⟨4,ae,av,aac⟩)::cBlk (w.heap.size+1) ans0::Cs)) w1:=S2.push [_,_,_,_,_,_]
   have d14:=S3.cell 14
   have g14:=S3.froz 14
   have b0:=(S3.pull [_,_,_,_,_,_,_]).cell 0
   simp only [progA,gA,gZ,gS] at d14 b0
   generalize t.phase=ph at *
   have S4:=Sep.pPub S3 (ph == 5)
   have HS4:=kH S4
   clear S2 S3 S4
   go_wp2_with fail
   generalize hW2:w1.setCell ⟨x,14,none⟩ (.bool (ph == 5))=W2 at *
   have HW2:=kH hW2
   clear hW2
   have e0:=HS4.out.cell 5
   have e5:=HS4.out.cell 11
   have e23:=HS4.out.cell 23
   have e24:=HS4.out.cell 24
   have g23:=HS4.out.froz 23
   have g24:=HS4.out.froz 24
   have hby:=fun j=>(HS4.out.pull [_,_,_,_,_,_,_]).cell j
   have hbf:=fun j=>(HS4.out.pull [_,_,_,_,_,_,_]).froz j
   have y0:=hby 0
   have y1:=hby 1
   have y3:=hby 3
   simp only [progA,gA,gZ,gS] at e0 e5 e23 e24 y0 y1 y3
   obtain ⟨⟨a0,a1,a2,a3⟩,⟨i0,i1,i2,i3⟩⟩:=(HS4.out.pull [_,_,_,_,_,_,_,_]).ansBox
   clear hby hbf
   go_wp2_with fail
   go_quiet (fail)
   have HAG:=kH (again_prog (HS4.out.drewN nq) HC.out HNL.out HOL.out ⟨HNT.out.1,by have:=HNT.out.2;show f.nth≤1000;omega⟩)
   unfold ptr at HAG
   go_wp2_with fail
   refine HAG.out.mono ?_
   rintro e5 w5 ⟨rfl,tx',ov',F5,S5⟩
   have S6:Sep w0 X (jC x k (newPF { f with published:=(ph == 5) } tx' ov') [] [] [] (old++t.told) (newTx k.c.ring k.c.writes k.c.stamps k.c.multi) F5 (cBlk w.heap.size (ansO ⟨4,ae,av,aac⟩)::cBlk (w.heap.size+1) ans0::Cs)) w5:=S5
   have hbz:=fun j=>(S6.pull [_,_,_,_,_,_,_]).cell j
   have v0:=hbz 0
   have v1:=hbz 1
   have v3:=hbz 3
   simp only [gA,gZ,gS] at v0 v1 v3
   have S7:=S6.pull [_,_,_,_,_,_,_,_]
   obtain ⟨⟨n0,n1,n2,n3⟩,⟨m0,m1,m2,m3⟩⟩:=S7.ansBox
   have HS7:=kH S7
   clear S5 S6 S7 hbz
   go_wp2
   refine Sep.ret ⟨4,ae,0,aac⟩ rfl HS7.out rfl rfl fun W' SF=>⟨by simp [comeA],.on ⟨newTx k.c.ring k.c.writes k.c.stamps k.c.multi,false,false,old++t.told⟩,.again rfl,newPF { f with published:=(ph == 5) } tx' ov',[],[],[],F5,⟨⟨stOk_nil,rfl,fun h=>by simp at h,i64_0,⟨by have:=HNT.out.1;show 0≤f.nth+1;omega,by have h:=of_decide_eq_true hlt9;show f.nth+1≤255;omega⟩,fun h=>by simp [newPF] at h,hov,fun _=>rfl⟩,rfl⟩,.inr rfl,(SF.pull [_,_,_,_,_,_,_]).drop⟩
 · go_enter Tryz.func43,Tryz.ntmps43
   go_wp2_with fail
   have S4:Sep w0 X (jC x k { f with published:=true } st cs ts old t F (cBlk w.heap.size (ansO ⟨4,ae,av,aac⟩)::cBlk (w.heap.size+1) ans0::Cs)) (((w.setCell ⟨x,14,none⟩ (.bool true)).alloc (ansO ⟨4,ae,av,aac⟩)).alloc ans0):=by
     have h:=(((Sep.pPub HS0.out true).new (ansO ⟨4,ae,av,aac⟩)).new ans0).sw
     rw [show ((w.setCell ⟨x,14,none⟩ (.bool true)).alloc (ansO ⟨4,ae,av,aac⟩)).heap.size=w.heap.size+1 by simp,show (w.setCell ⟨x,14,none⟩ (.bool true)).heap.size=w.heap.size by simp] at h
     exact Sep.turn [_,_] [_,_,_,_,_,_,_] h
   have HS4:=kH S4
   unfold ansO ans0 at HS4
   simp only at HS4
   clear S4
   generalize hW2:((w.setCell ⟨x,14,none⟩ (.bool true)).alloc (.cells #[.int .i64 4,.int .i64 ae,.int .i64 av,.bool aac] 35 (0,0))).alloc (.cells #[.int .i64 0,.int .i64 0,.int .i64 0,.bool false] 35 (0,0))=W2 at *
   have HW2:=kH hW2
   clear hW2
   have e0:=HS4.out.cell 5
   have e5:=HS4.out.cell 11
   have e23:=HS4.out.cell 23
   have e24:=HS4.out.cell 24
   have g23:=HS4.out.froz 23
   have g24:=HS4.out.froz 24
   have hby:=fun j=>(HS4.out.pull [_,_,_,_,_,_,_]).cell j
   have hbf:=fun j=>(HS4.out.pull [_,_,_,_,_,_,_]).froz j
   have y0:=hby 0
   have y1:=hby 1
   have y3:=hby 3
   simp only [progA,gA,gZ,gS] at e0 e5 e23 e24 y0 y1 y3
   obtain ⟨⟨a0,a1,a2,a3⟩,⟨i0,i1,i2,i3⟩⟩:=(HS4.out.pull [_,_,_,_,_,_,_,_]).ansBox
   clear hby hbf
   go_wp2_with fail
   go_quiet (fail)
   have HAG:=kH (again_prog (HS4.out.drewN nq) HC.out HNL.out HOL.out ⟨HNT.out.1,by have:=HNT.out.2;show f.nth≤1000;omega⟩)
   unfold ptr at HAG
   go_wp2_with fail
   refine HAG.out.mono ?_
   rintro e5 w5 ⟨rfl,tx',ov',F5,S5⟩
   have S6:Sep w0 X (jC x k (newPF { f with published:=true } tx' ov') [] [] [] (old++t.told) (newTx k.c.ring k.c.writes k.c.stamps k.c.multi) F5 (cBlk w.heap.size (ansO ⟨4,ae,av,aac⟩)::cBlk (w.heap.size+1) ans0::Cs)) w5:=S5
   have hbz:=fun j=>(S6.pull [_,_,_,_,_,_,_]).cell j
   have v0:=hbz 0
   have v1:=hbz 1
   have v3:=hbz 3
   simp only [gA,gZ,gS] at v0 v1 v3
   have S7:=S6.pull [_,_,_,_,_,_,_,_]
   obtain ⟨⟨n0,n1,n2,n3⟩,⟨m0,m1,m2,m3⟩⟩:=S7.ansBox
   have HS7:=kH S7
   clear S5 S6 S7 hbz
   go_wp2
   refine Sep.ret ⟨4,ae,0,aac⟩ rfl HS7.out rfl rfl fun W' SF=>⟨by simp [comeA],.on ⟨newTx k.c.ring k.c.writes k.c.stamps k.c.multi,false,false,old++t.told⟩,.again rfl,newPF { f with published:=true } tx' ov',[],[],[],F5,⟨⟨stOk_nil,rfl,fun h=>by simp at h,i64_0,⟨by have:=HNT.out.1;show 0≤f.nth+1;omega,by have h:=of_decide_eq_true hlt9;show f.nth+1≤255;omega⟩,fun h=>by simp [newPF] at h,hov,fun _=>rfl⟩,rfl⟩,.inr rfl,(SF.pull [_,_,_,_,_,_,_]).drop⟩
theorem comes_again2 (hS:Sep w0 X (jC x k f st cs ts old t F Cs) w) (hts:ts.length≤16) (hc:CfgOk k.c) (hn:0 < t.told.length∧t.told.length≤1073741824) (ho:old.length+t.told.length≤1073741824) (hnth:0≤f.nth∧f.nth≤255) (hkt:k.tries≤255) (hov:f.over=false) (ae av:Int) (aac:Bool) (e3:(ae == 3)=false) (e4:(ae == 4)=true) (hlt9:decide (f.nth < k.tries)=true) :
   Calls Tryz.prog 43 #[ptr x,(⟨4,ae,av,aac⟩:AnsD).val] w (ComesPost w0 X Cs x k f old t ⟨4,ae,av,aac⟩):=by
 have S1:Sep w0 X (jC x k f st cs ts old t F (cBlk w.heap.size (ansO ⟨4,ae,av,aac⟩)::cBlk (w.heap.size+1) ans0::Cs)) ((w.alloc (ansO ⟨4,ae,av,aac⟩)).alloc ans0):=by
   have h:=((hS.new (ansO ⟨4,ae,av,aac⟩)).new ans0).sw
   rw [show (w.alloc (ansO ⟨4,ae,av,aac⟩)).heap.size=w.heap.size+1 by simp] at h
   exact Sep.turn [_,_] [_,_,_,_,_,_,_] h
 have HP:=kH (Phase_c (S1.pull [_,_,_,_,_,_]))
 have HS0:=kH hS
 have HC:=kH hc
 have HNL:=kH hn
 have HOL:=kH ho
 have HNT:=kH hnth
 have hlt:=heap_lt hS.h0
 have c12:=S1.cell 12
 have c14:=hS.cell 14
 have f14:=hS.froz 14
 simp only [progA,gA,gZ,gS] at c12 c14
 have hne:x≠w.heap.size:=Nat.ne_of_lt hlt
 have hne2:x≠w.heap.size+1:=by omega
 clear hS S1 hc hn ho
 unfold AnsD.val ansO ans0 ptr at *
 generalize hpb:f.published=pb at c14
 have HPB:=kH hpb
 clear hpb
 cases pb
 · go_enter Tryz.func43,Tryz.ntmps43
   go_wp2_with fail
   refine HP.out.mono ?_
   rintro e w1 ⟨rfl,F',S2⟩
   have S3:Sep w0 X (jC x k f st cs ts old t F' (cBlk w.heap.size (ansO ⟨4,ae,av,aac⟩)::cBlk (w.heap.size+1) ans0::Cs)) w1:=S2.push [_,_,_,_,_,_]
   have d14:=S3.cell 14
   have g14:=S3.froz 14
   have b0:=(S3.pull [_,_,_,_,_,_,_]).cell 0
   simp only [progA,gA,gZ,gS] at d14 b0
   generalize t.phase=ph at *
   have S4:=Sep.pPub S3 (ph == 5)
   have HS4:=kH S4
   clear S2 S3 S4
   go_wp2_with fail
   generalize hW2:w1.setCell ⟨x,14,none⟩ (.bool (ph == 5))=W2 at *
   have HW2:=kH hW2
   clear hW2
   have e0:=HS4.out.cell 5
   have e5:=HS4.out.cell 11
   have e23:=HS4.out.cell 23
   have e24:=HS4.out.cell 24
   have g23:=HS4.out.froz 23
   have g24:=HS4.out.froz 24
   have hby:=fun j=>(HS4.out.pull [_,_,_,_,_,_,_]).cell j
   have hbf:=fun j=>(HS4.out.pull [_,_,_,_,_,_,_]).froz j
   have y0:=hby 0
   have y1:=hby 1
   have y3:=hby 3
   simp only [progA,gA,gZ,gS] at e0 e5 e23 e24 y0 y1 y3
   obtain ⟨⟨a0,a1,a2,a3⟩,⟨i0,i1,i2,i3⟩⟩:=(HS4.out.pull [_,_,_,_,_,_,_,_]).ansBox
   clear hby hbf
   go_wp2_with fail
   go_quiet (fail)
   have HAG:=kH (again_prog (HS4.out.drewN nq) HC.out HNL.out HOL.out ⟨HNT.out.1,by have:=HNT.out.2;show f.nth≤1000;omega⟩)
   unfold ptr at HAG
   go_wp2_with fail
   refine HAG.out.mono ?_
   rintro e5 w5 ⟨rfl,tx',ov',F5,S5⟩
   have S6:Sep w0 X (jC x k (newPF { f with published:=(ph == 5) } tx' ov') [] [] [] (old++t.told) (newTx k.c.ring k.c.writes k.c.stamps k.c.multi) F5 (cBlk w.heap.size (ansO ⟨4,ae,av,aac⟩)::cBlk (w.heap.size+1) ans0::Cs)) w5:=S5
   have hbz:=fun j=>(S6.pull [_,_,_,_,_,_,_]).cell j
   have v0:=hbz 0
   have v1:=hbz 1
   have v3:=hbz 3
   simp only [gA,gZ,gS] at v0 v1 v3
   have S7:=S6.pull [_,_,_,_,_,_,_,_]
   obtain ⟨⟨n0,n1,n2,n3⟩,⟨m0,m1,m2,m3⟩⟩:=S7.ansBox
   have HS7:=kH S7
   clear S5 S6 S7 hbz
   go_wp2
   refine Sep.ret ⟨4,ae,0,aac⟩ rfl HS7.out rfl rfl fun W' SF=>⟨by simp [comeA],.on ⟨newTx k.c.ring k.c.writes k.c.stamps k.c.multi,false,false,old++t.told⟩,.again rfl,newPF { f with published:=(ph == 5) } tx' ov',[],[],[],F5,⟨⟨stOk_nil,rfl,fun h=>by simp at h,i64_0,⟨by have:=HNT.out.1;show 0≤f.nth+1;omega,by have h:=of_decide_eq_true hlt9;show f.nth+1≤255;omega⟩,fun h=>by simp [newPF] at h,hov,fun _=>rfl⟩,rfl⟩,.inr rfl,(SF.pull [_,_,_,_,_,_,_]).drop⟩
 · go_enter Tryz.func43,Tryz.ntmps43
   go_wp2_with fail
   have S4:Sep w0 X (jC x k { f with published:=true } st cs ts old t F (cBlk w.heap.size (ansO ⟨4,ae,av,aac⟩)::cBlk (w.heap.size+1) ans0::Cs)) (((w.setCell ⟨x,14,none⟩ (.bool true)).alloc (ansO ⟨4,ae,av,aac⟩)).alloc ans0):=by
     have h:=(((Sep.pPub HS0.out true).new (ansO ⟨4,ae,av,aac⟩)).new ans0).sw
     rw [show ((w.setCell ⟨x,14,none⟩ (.bool true)).alloc (ansO ⟨4,ae,av,aac⟩)).heap.size=w.heap.size+1 by simp,show (w.setCell ⟨x,14,none⟩ (.bool true)).heap.size=w.heap.size by simp] at h
     exact Sep.turn [_,_] [_,_,_,_,_,_,_] h
   have HS4:=kH S4
   unfold ansO ans0 at HS4
   simp only at HS4
   clear S4
   generalize hW2:((w.setCell ⟨x,14,none⟩ (.bool true)).alloc (.cells #[.int .i64 4,.int .i64 ae,.int .i64 av,.bool aac] 35 (0,0))).alloc (.cells #[.int .i64 0,.int .i64 0,.int .i64 0,.bool false] 35 (0,0))=W2 at *
   have HW2:=kH hW2
   clear hW2
   have e0:=HS4.out.cell 5
   have e5:=HS4.out.cell 11
   have e23:=HS4.out.cell 23
   have e24:=HS4.out.cell 24
   have g23:=HS4.out.froz 23
   have g24:=HS4.out.froz 24
   have hby:=fun j=>(HS4.out.pull [_,_,_,_,_,_,_]).cell j
   have hbf:=fun j=>(HS4.out.pull [_,_,_,_,_,_,_]).froz j
   have y0:=hby 0
   have y1:=hby 1
   have y3:=hby 3
   simp only [progA,gA,gZ,gS] at e0 e5 e23 e24 y0 y1 y3
   obtain ⟨⟨a0,a1,a2,a3⟩,⟨i0,i1,i2,i3⟩⟩:=(HS4.out.pull [_,_,_,_,_,_,_,_]).ansBox
   clear hby hbf
   go_wp2_with fail
   go_quiet (fail)
   have HAG:=kH (again_prog (HS4.out.drewN nq) HC.out HNL.out HOL.out ⟨HNT.out.1,by have:=HNT.out.2;show f.nth≤1000;omega⟩)
   unfold ptr at HAG
   go_wp2_with fail
   refine HAG.out.mono ?_
   rintro e5 w5 ⟨rfl,tx',ov',F5,S5⟩
   have S6:Sep w0 X (jC x k (newPF { f with published:=true } tx' ov') [] [] [] (old++t.told) (newTx k.c.ring k.c.writes k.c.stamps k.c.multi) F5 (cBlk w.heap.size (ansO ⟨4,ae,av,aac⟩)::cBlk (w.heap.size+1) ans0::Cs)) w5:=S5
   have hbz:=fun j=>(S6.pull [_,_,_,_,_,_,_]).cell j
   have v0:=hbz 0
   have v1:=hbz 1
   have v3:=hbz 3
   simp only [gA,gZ,gS] at v0 v1 v3
   have S7:=S6.pull [_,_,_,_,_,_,_,_]
   obtain ⟨⟨n0,n1,n2,n3⟩,⟨m0,m1,m2,m3⟩⟩:=S7.ansBox
   have HS7:=kH S7
   clear S5 S6 S7 hbz
   go_wp2
   refine Sep.ret ⟨4,ae,0,aac⟩ rfl HS7.out rfl rfl fun W' SF=>⟨by simp [comeA],.on ⟨newTx k.c.ring k.c.writes k.c.stamps k.c.multi,false,false,old++t.told⟩,.again rfl,newPF { f with published:=true } tx' ov',[],[],[],F5,⟨⟨stOk_nil,rfl,fun h=>by simp at h,i64_0,⟨by have:=HNT.out.1;show 0≤f.nth+1;omega,by have h:=of_decide_eq_true hlt9;show f.nth+1≤255;omega⟩,fun h=>by simp [newPF] at h,hov,fun _=>rfl⟩,rfl⟩,.inr rfl,(SF.pull [_,_,_,_,_,_,_]).drop⟩
end
section
open Go.RowKit
variable {w0:World} {X:List Nat} {Cs:List Comp} {w:World} {x:Nat} {k:PCfg} {f:PF} {st cs ts:List Int} {t:TxD} {F:List Nat} {old:List EvD}
theorem comes_prog (hS:Sep w0 X (jC x k f st cs ts old t F Cs) w) (hok:StOk st cs ts) (hb:f.begun=true) (hcm:f.came≠.no) (hw:I64 f.word) (hnth:0≤f.nth∧f.nth≤255) (hkt:k.tries≤255) (hov:f.over=false) (hl:f.came=.loaded→st.length≤31)
   (hc:CfgOk k.c) (hn:t.told.length≤1073741824) (ho:old.length+t.told.length≤1073741824) (a:AnsD) (hv:I64 a.value) (h3:a.kind=3→t.way=.no) (h4:a.kind=4→0 < t.told.length) :
   Calls Tryz.prog 43 #[ptr x,a.val] w (ComesPost w0 X Cs x k f old t a):=by
 obtain ⟨ak,ae,av,aac⟩:=a
 simp only at hv h3 h4
 by_cases e3:ak=3
 · subst e3
   exact comes_done hS hok hb hcm hw hnth hl (h3 rfl) ae av aac hv
 by_cases e4:ak=4
 · subst e4
   have hn':=And.intro (h4 rfl) hn
   by_cases k3:ae=3
   · by_cases kt:f.nth < k.tries
     · exact comes_again1 hS hok.tsl hc hn' ho hnth hkt hov ae av aac (by simp [k3]) (decide_eq_true kt)
     · exact comes_over2 hS hok.tsl hc hn' ho hnth hkt hov ae av aac (by simp [k3]) (decide_eq_false kt)
   · by_cases k4:ae=4
     · by_cases kt:f.nth < k.tries
       · exact comes_again2 hS hok.tsl hc hn' ho hnth hkt hov ae av aac (beq_eq_false_iff_ne.2 k3) (by simp [k4]) (decide_eq_true kt)
       · exact comes_over3 hS hok.tsl hc hn' ho hnth hkt hov ae av aac (beq_eq_false_iff_ne.2 k3) (by simp [k4]) (decide_eq_false kt)
     · exact comes_over1 hS hok.tsl hc hn' ho hnth hkt hov ae av aac (beq_eq_false_iff_ne.2 k3) (beq_eq_false_iff_ne.2 k4)
 exact comes_on hS hok hb hcm hw hnth hov hl ⟨ak,ae,av,aac⟩ e3 e4
end
section
open Go.RowKit
variable {w0:World} {X:List Nat} {Cs:List Comp} {w:World} {x p L:Nat} {k:PCfg} {f:PF} {st cs ts:List Int} {t:TxD} {F F2:List Nat} {old:List EvD} {m:MemD} {y:WantD} {c:CameD}
theorem Sep.pCame (h:Sep w0 X (cBlk x (progO k f)::Cs) w) (c:CameD):Sep w0 X (cBlk x (progO k { f with came:=c })::Cs) (w.setCell ⟨x,19,none⟩ c.val):=h.pset 19 _ (by simp [progA])
def WantPost (w0:World) (X:List Nat) (Cs:List Comp) (x p L:Nat) (k:PCfg) (f:PF) (old:List EvD) (c:CameD) (r:AnsD×TxD×MemD) (e:Ending) (w':World):Prop :=
 ∃ nx F2 L',L'≤L+1∧e=.returned (comeA r.1 c.fin).val∧Comes k.c old r.2.1 c.fin r.1 nx∧JobPost w0 X (cMem p r.2.2 L' F2::Cs) x k f c old r.2.1 nx w'
theorem JobPost.blk {a b:Comp} {g:Nat} {o:Obj} {nx:JNext} {w':World} (h:JobPost w0 X (a::b::cBlk g o::Cs) x k f c old t nx w'):w'.heap[g]?=some o:=by
 cases nx with
 | on j =>
   obtain ⟨f',st,cs,ts,F',h1,h2,hS⟩:=h
   exact (hS.pull [_,_,_,_,_,_,_,_,_]).h0
 | over =>
   obtain ⟨f',st,cs,ts,F',h1,hS⟩:=h
   exact (hS.pull [_,_,_,_,_,_,_,_,_]).h0
theorem JobPost.ret {a b:Comp} {g:Nat} {nx:JNext} {W:World} {a0 b0 c0 d0:Value} {fn:Func} {Q:Ending→World→Prop} {act:Act} {q:Tmp} (an:AnsD) (hres:fn.results=#[.cell q 35])
   (h:JobPost w0 X (a::b::cBlk g (.cells #[a0,b0,c0,d0] 35 (0,0))::Cs) x k f c old t nx W) (hg:act.tmps.getD q undef=.pointer (some ⟨g,0,none⟩)) (hd:act.defers=[])
   (hQ:∀ W',JobPost w0 X (a::Cs) x k f c old t nx W'→Q (.returned an.val) W') :
   bodyPost Tryz.prog fn Q .ret act ((((W.setCell ⟨g,0,none⟩ (.int .i64 an.kind)).setCell ⟨g,1,none⟩ (.int .i64 an.err)).setCell ⟨g,2,none⟩ (.int .i64 an.value)).setCell ⟨g,3,none⟩ (.bool an.access)):=by
 cases nx with
 | on j =>
   obtain ⟨f',st,cs,ts,F',h1,h2,hS⟩:=h
   exact Sep.ret an hres (hS.pull [_,_,_,_,_,_,_,_,_]) hg hd fun W' SF=>hQ W' ⟨f',st,cs,ts,F',h1,h2,(SF.pull [_,_,_,_,_,_,_,_]).drop⟩
 | over =>
   obtain ⟨f',st,cs,ts,F',h1,hS⟩:=h
   exact Sep.ret an hres (hS.pull [_,_,_,_,_,_,_,_,_]) hg hd fun W' SF=>hQ W' ⟨f',st,cs,ts,F',h1,(SF.pull [_,_,_,_,_,_,_,_]).drop⟩
theorem wants_prog (hS:Sep w0 X (jC x k f st cs ts old t F (cMem p m L F2::Cs)) w) (hok:StOk st cs ts) (hb:f.begun=true) (hw:I64 f.word) (hnth:0≤f.nth∧f.nth≤255) (hkt:k.tries≤255) (hov:f.over=false) (c:CameD) (hcn:c≠.no) (hl:c=.loaded→st.length≤31)
   (hc:CfgOk k.c) (htx:TxOk k.c t m) (hway:t.way=.no) (hfit:fitsT m t y=true) (hyv:I64 y.value) (hn:t.told.length≤1073741820) (ho:old.length+t.told.length≤1073741820) (hL:L≤1073741824) (th:Int) :
   Calls Tryz.prog 40 #[ptr x,ptr p,.int .i64 th,wantV y,c.val] w (WantPost w0 X Cs x p L k f old c (txDo m t y)):=by
 have c12:=hS.cell 12
 have c19:=hS.cell 19
 have f19:=hS.froz 19
 simp only [progA,gA,gZ,gS] at c12 c19
 have hlt:=heap_lt hS.h0
 have S1:Sep w0 X (jC x k { f with came:=c } st cs ts old t F (cMem p m L F2::cBlk w.heap.size (wantO y)::cBlk (w.heap.size+1) ans0::Cs)) (((w.setCell ⟨x,19,none⟩ c.val).alloc (wantO y)).alloc ans0):=by
   have h:=(((Sep.pCame hS c).new (wantO y)).new ans0).sw
   rw [show ((w.setCell ⟨x,19,none⟩ c.val).alloc (wantO y)).heap.size=w.heap.size+1 by simp,show (w.setCell ⟨x,19,none⟩ c.val).heap.size=w.heap.size by simp] at h
   exact Sep.turn [_,_] [_,_,_,_,_,_,_,_] h
 obtain ⟨n,hcv,-,-⟩:=came_calls (k:=k) (f:={ f with came:=c }) hcn
 have hcv:c.val=.func (.func n) #[] #[]:=hcv
 rw [hcv] at S1 ⊢
 clear hcv
 have HD:=kH (fun q=>Do_tx hc ((S1.drewN q).turn [_,_,_,_,_,_] [_,_]) htx hway hfit hyv th (by omega) hL)
 have hmem:MemOk m:=((S1.turn [_,_,_,_,_,_] [_,_]).h1:RepM _ p m L F2).ok
 have HFA:=kH (do_facts hc hmem htx hway hfit hyv)
 clear hS
 generalize txDo m t y=R at *
 obtain ⟨a,t',m'⟩:=R
 simp only at HD HFA
 obtain ⟨kind,cell,value,code⟩:=y
 unfold wantV wantO ans0 ptr at *
 go_enter Tryz.func40,Tryz.ntmps40
 go_wp2_with fail
 generalize hW1:((w.setCell ⟨x,19,none⟩ (.func (.func n) #[] #[])).alloc (.cells #[.int .i64 kind,.int .i64 cell,.int .i64 value,.int .i64 code] 109 (0,0))).alloc (.cells #[.int .i64 0,.int .i64 0,.int .i64 0,.bool false] 35 (0,0))=W1 at *
 have HW1:=kH hW1
 clear hW1
 have e12:=S1.cell 12
 have hbx:=fun j=>(S1.pull [_,_,_,_,_,_,_,_]).cell j
 have y0:=hbx 0
 have y1:=hbx 1
 have y2:=hbx 2
 have y3:=hbx 3
 simp only [progA,gA,gZ,gS] at e12 y0 y1 y2 y3
 unfold ptr at e12
 clear hbx S1
 go_region_law (first | (go_simp;go_at_call 56;refine (HD.out _).mono ?_;rintro e2 w2 ⟨rfl,F3,F4,L',hL',S2⟩;have S3:Sep w0 X (jC x k { f with came:=c } st cs ts old t' F3 (cMem p m' L' F4::_::_::Cs)) w2:=S2.turn [_,_] [_,_,_,_,_,_];have HCM:=kH (comes_prog S3 hok hb hcn hw hnth hkt hov hl hc (by have:=HFA.out.len;omega) (by have:=HFA.out.len;omega) a HFA.out.val HFA.out.way HFA.out.told);clear S2 S3) | (go_simp;go_at_call 43;refine HCM.out.mono ?_;rintro e3 w3 ⟨rfl,nx,hcome,hjob⟩;obtain ⟨⟨a0,a1,a2,a3⟩,⟨g0,g1,g2,g3⟩⟩:=box4a hjob.blk;unfold AnsD.val;have HJ:=kH hjob;have HCO:=kH hcome;clear hjob hcome))
 all_goals
   go_wp2
   refine JobPost.ret (comeA a c.fin) rfl HJ.out rfl rfl fun W' hj=>⟨nx,F4,L',hL',rfl,HCO.out,?_⟩
   cases nx with
   | on j=>exact hj
   | over=>exact hj
end
namespace Cod
open Go.RowKit
def shapeT:List Nat:=[0,1,2,3,0,0,0,0,0,0,0,0,0,0,0,0,0,0,0,0,0,0,0,4,2,2,6,0,5,0,0,0,0,5,5,5,5,5,5,5,5]
def shapeN (c:Nat):Nat:=shapeT.getD c 0
def widthN (sh:Nat):Nat:=if sh=1∨sh=4∨sh=5 then 1 else if sh=2∨sh=6 then 2 else if sh=3 then 8 else 0
def loI (sh:Nat):Int:=if sh=1 then -128 else if sh=2 then -32768 else if sh=3 then -9223372036854775808 else 0
def hiI (sh:Nat):Int:=if sh=1 then 127 else if sh=2 then 32767 else if sh=3 then 9223372036854775807 else if sh=4 then 5 else if sh=5 then 255 else if sh=6 then 65535 else 0
def fitsB (sh:Nat) (n:Int):Bool:=decide (loI sh≤n∧n≤hiI sh)
def valueI (sh:Nat) (n:Nat):Int :=
 if sh=1 then (if n % 256 < 128 then (n % 256:Nat) else (n % 256:Nat) - 256) else if sh=2 then (if n % 65536 < 32768 then (n % 65536:Nat) else (n % 65536:Nat) - 65536) else wrap64 n
theorem shape_le (c:Nat):shapeN c≤6:=by
 by_cases h:c < 41
 · have:∀ c,c < 41→shapeN c≤6:=by decide
   exact this c h
 · unfold shapeN
   rw [List.getD_eq_getElem?_getD,List.getElem?_eq_none (by simp [shapeT];omega)]
   simp
theorem width_le (sh:Nat):widthN sh≤8:=by
 unfold widthN
 split
 · omega
 · split
   · omega
   · split <;> omega
def byteN (l:List UInt8) (i:Nat):Nat:=(l.getD i 0).toNat
theorem byte_lt (l:List UInt8) (i:Nat):byteN l i < 256:=(l.getD i 0).toNat_lt
def leF (l:List UInt8) (a:Nat):Nat→Nat
 | 0=>0
 | k+1=>byteN l a+256 * leF l (a+1) k
theorem leF_snoc (l:List UInt8):∀ (k a:Nat),leF l a (k+1)=leF l a k+byteN l (a+k) * 256 ^ k
 | 0,a=>by simp [leF]
 | k+1,a=>by
   have ih:=leF_snoc l k (a+1)
   rw [leF,ih,leF,Nat.pow_succ]
   have e:a+1+k=a+(k+1):=by omega
   rw [e,Nat.mul_add]
   have:256 * (byteN l (a+(k+1)) * 256 ^ k)=byteN l (a+(k+1)) * (256 ^ k * 256):=by
     rw [Nat.mul_comm 256,Nat.mul_assoc]
   omega
theorem leF_lt (l:List UInt8):∀ (k a:Nat),leF l a k < 256 ^ k
 | 0,a=>by simp [leF]
 | k+1,a=>by
   have ih:=leF_lt l k (a+1)
   have hb:=byte_lt l a
   rw [leF,Nat.pow_succ]
   omega
theorem pow_le8 {k:Nat} (h:k≤8):256 ^ k≤18446744073709551616:=Nat.le_trans (Nat.pow_le_pow_right (by omega) h) (by decide)
theorem leF_lt8 (l:List UInt8) (k a:Nat) (h:k≤8):leF l a k < 18446744073709551616:=Nat.lt_of_lt_of_le (leF_lt l k a) (pow_le8 h)
structure Spot4 where
 code:Int
 operand:Int
 n:Int
 err:Int
def noSpot:Spot4:=⟨0,0,0,10⟩
def atS (l:List UInt8) (at_:Int):Spot4 :=
 if at_ < 0∨l.length≤at_ then noSpot
 else if 41≤byteN l at_.toNat then noSpot
 else if l.length < at_.toNat+1+widthN (shapeN (byteN l at_.toNat)) then noSpot
 else if fitsB (shapeN (byteN l at_.toNat)) (valueI (shapeN (byteN l at_.toNat)) (leF l (at_.toNat+1) (widthN (shapeN (byteN l at_.toNat)))))=true then
   ⟨byteN l at_.toNat,valueI (shapeN (byteN l at_.toNat)) (leF l (at_.toNat+1) (widthN (shapeN (byteN l at_.toNat)))),1+widthN (shapeN (byteN l at_.toNat)),0⟩
 else noSpot
theorem value_range (sh n:Nat) : -9223372036854775808≤valueI sh n∧valueI sh n≤9223372036854775807:=by
 unfold valueI
 split
 · split <;> omega
 · split
   · split <;> omega
   · unfold wrap64
     omega
theorem pow8 (k:Nat):2 ^ (8 * k)=256 ^ k:=by rw [Nat.pow_mul]
theorem or_step (n b k:Nat) (hn:n < 256 ^ k) (hb:b < 256) (hk:k < 8):bits .or .u64 (n:Int) (IntKind.u64.wrap (IntKind.u64.wrap (b:Int) * 2 ^ (8 * k)))=((n+b * 256 ^ k:Nat):Int):=by
 have h1:256 ^ k * 256≤18446744073709551616:=by
   have:=Nat.pow_le_pow_right (show 0 < 256 by omega) (show k+1≤8 by omega)
   rw [Nat.pow_succ] at this
   exact Nat.le_trans this (by decide)
 have e1:IntKind.u64.wrap (b:Int)=b:=by simp [IntKind.wrap,IntKind.bits,IntKind.signed];omega
 have h2:b * 256 ^ k < 18446744073709551616:=by
   have:b * 256 ^ k≤255 * 256 ^ k:=Nat.mul_le_mul_right _ (by omega)
   omega
 have e2:IntKind.u64.wrap ((b:Int) * 2 ^ (8 * k))=((b * 256 ^ k:Nat):Int):=by
   have e:(b:Int) * 2 ^ (8 * k)=((b * 256 ^ k:Nat):Int):=by rw [← pow8];push_cast;rfl
   rw [e]
   simp only [IntKind.wrap,IntKind.bits,IntKind.signed]
   generalize b * 256 ^ k=m at *
   simp
   omega
 have hn2:n < 18446744073709551616:=by omega
 rw [e1,e2,u64_or_nat _ _ hn2 h2]
 congr 1
 have h3:=Nat.two_pow_add_eq_or_of_lt (i:=8 * k) (b:=n) (by rw [pow8];exact hn) b
 rw [pow8,Nat.mul_comm (256 ^ k) b] at h3
 rw [Nat.or_comm,← h3,Nat.add_comm]
end Cod
namespace Cod
open Go.RowKit
theorem seven {sh:Nat} (h:sh≤6):sh=0∨sh=1∨sh=2∨sh=3∨sh=4∨sh=5∨sh=6:=by omega
theorem width_calls (sh:Nat) (h:sh≤6) (w:World):Calls Tryz.prog 97 #[.int .u8 (sh:Int)] w (Just (.int .i64 (widthN sh:Int)) w):=by
 rcases seven h with rfl | rfl | rfl | rfl | rfl | rfl | rfl
 all_goals
   clear h
   go_enter Tryz.func97,Tryz.ntmps97
   go_wp2
   go_ret
   exact ⟨rfl,rfl⟩
theorem ret_int {k:IntKind} {a b:Int} (h:a=b):Ending.returned (.int k a)=.returned (.int k b):=by rw [h]
theorem fits_calls (sh:Nat) (h:sh≤6) (n:Int) (h1 : -9223372036854775808≤n) (h2:n≤9223372036854775807) (w:World) :
   Calls Tryz.prog 99 #[.int .u8 (sh:Int),.int .i64 n] w (Just (.bool (fitsB sh n)) w):=by
 rcases seven h with rfl | rfl | rfl | rfl | rfl | rfl | rfl
 · have e:fitsB 0 n=(n == 0):=by
     unfold fitsB
     by_cases hz:n=0
     · subst hz;rfl
     · rw [decide_eq_false (by show ¬ ((0:Int)≤n∧n≤0);omega)];simp [hz]
   rw [e]
   clear h e h1 h2
   go_enter Tryz.func99,Tryz.ntmps99
   go_wp2
   go_ret
   exact ⟨rfl,rfl⟩
 · clear h h1 h2
   rcases (show n < (-128)∨((-128)≤n∧127 < n)∨((-128)≤n∧n≤127) from by omega) with hh | ⟨hh,h1⟩ | ⟨hh,h1⟩
   · have e:fitsB 1 n=false:=decide_eq_false (by show ¬ ((-128)≤n∧n≤127);omega)
     rw [e]
     have g:decide ((-128)≤n)=false:=by simp;omega
     clear e hh
     go_enter Tryz.func99,Tryz.ntmps99
     go_wp2
     go_ret
     exact ⟨rfl,rfl⟩
   · have e:fitsB 1 n=false:=decide_eq_false (by show ¬ ((-128)≤n∧n≤127);omega)
     rw [e]
     have g:decide (n≤127)=false:=by simp;omega
     clear e h1
     go_enter Tryz.func99,Tryz.ntmps99
     go_wp2
     go_ret
     exact ⟨rfl,rfl⟩
   · have e:fitsB 1 n=true:=decide_eq_true (by show (-128)≤n∧n≤127;omega)
     rw [e]
     clear e
     go_enter Tryz.func99,Tryz.ntmps99
     go_wp2
     go_ret
     exact ⟨rfl,rfl⟩
 · clear h h1 h2
   rcases (show n < (-32768)∨((-32768)≤n∧32767 < n)∨((-32768)≤n∧n≤32767) from by omega) with hh | ⟨hh,h1⟩ | ⟨hh,h1⟩
   · have e:fitsB 2 n=false:=decide_eq_false (by show ¬ ((-32768)≤n∧n≤32767);omega)
     rw [e]
     have g:decide ((-32768)≤n)=false:=by simp;omega
     clear e hh
     go_enter Tryz.func99,Tryz.ntmps99
     go_wp2
     go_ret
     exact ⟨rfl,rfl⟩
   · have e:fitsB 2 n=false:=decide_eq_false (by show ¬ ((-32768)≤n∧n≤32767);omega)
     rw [e]
     have g:decide (n≤32767)=false:=by simp;omega
     clear e h1
     go_enter Tryz.func99,Tryz.ntmps99
     go_wp2
     go_ret
     exact ⟨rfl,rfl⟩
   · have e:fitsB 2 n=true:=decide_eq_true (by show (-32768)≤n∧n≤32767;omega)
     rw [e]
     clear e
     go_enter Tryz.func99,Tryz.ntmps99
     go_wp2
     go_ret
     exact ⟨rfl,rfl⟩
 · have e:fitsB 3 n=true:=decide_eq_true ⟨h1,h2⟩
   rw [e]
   clear h e h1 h2
   go_enter Tryz.func99,Tryz.ntmps99
   go_wp2
   go_ret
   exact ⟨rfl,rfl⟩
 · clear h h1 h2
   rcases (show n < 0∨(0≤n∧6≤n)∨(0≤n∧n < 6) from by omega) with hh | ⟨hh,h1⟩ | ⟨hh,h1⟩
   · have e:fitsB 4 n=false:=decide_eq_false (by show ¬ (0≤n∧n≤5);omega)
     rw [e]
     have g:decide (0≤n)=false:=by simp;omega
     clear e hh
     go_enter Tryz.func99,Tryz.ntmps99
     go_wp2
     go_ret
     exact ⟨rfl,rfl⟩
   · have e:fitsB 4 n=false:=decide_eq_false (by show ¬ (0≤n∧n≤5);omega)
     rw [e]
     have g:decide (n < 6)=false:=by simp;omega
     clear e h1
     go_enter Tryz.func99,Tryz.ntmps99
     go_wp2
     go_ret
     exact ⟨rfl,rfl⟩
   · have e:fitsB 4 n=true:=decide_eq_true (by show 0≤n∧n≤5;omega)
     rw [e]
     clear e
     go_enter Tryz.func99,Tryz.ntmps99
     go_wp2
     go_ret
     exact ⟨rfl,rfl⟩
 · clear h h1 h2
   rcases (show n < 0∨(0≤n∧255 < n)∨(0≤n∧n≤255) from by omega) with hh | ⟨hh,h1⟩ | ⟨hh,h1⟩
   · have e:fitsB 5 n=false:=decide_eq_false (by show ¬ (0≤n∧n≤255);omega)
     rw [e]
     have g:decide (0≤n)=false:=by simp;omega
     clear e hh
     go_enter Tryz.func99,Tryz.ntmps99
     go_wp2
     go_ret
     exact ⟨rfl,rfl⟩
   · have e:fitsB 5 n=false:=decide_eq_false (by show ¬ (0≤n∧n≤255);omega)
     rw [e]
     have g:decide (n≤255)=false:=by simp;omega
     clear e h1
     go_enter Tryz.func99,Tryz.ntmps99
     go_wp2
     go_ret
     exact ⟨rfl,rfl⟩
   · have e:fitsB 5 n=true:=decide_eq_true (by show 0≤n∧n≤255;omega)
     rw [e]
     clear e
     go_enter Tryz.func99,Tryz.ntmps99
     go_wp2
     go_ret
     exact ⟨rfl,rfl⟩
 · clear h h1 h2
   rcases (show n < 0∨(0≤n∧65535 < n)∨(0≤n∧n≤65535) from by omega) with hh | ⟨hh,h1⟩ | ⟨hh,h1⟩
   · have e:fitsB 6 n=false:=decide_eq_false (by show ¬ (0≤n∧n≤65535);omega)
     rw [e]
     have g:decide (0≤n)=false:=by simp;omega
     clear e hh
     go_enter Tryz.func99,Tryz.ntmps99
     go_wp2
     go_ret
     exact ⟨rfl,rfl⟩
   · have e:fitsB 6 n=false:=decide_eq_false (by show ¬ (0≤n∧n≤65535);omega)
     rw [e]
     have g:decide (n≤65535)=false:=by simp;omega
     clear e h1
     go_enter Tryz.func99,Tryz.ntmps99
     go_wp2
     go_ret
     exact ⟨rfl,rfl⟩
   · have e:fitsB 6 n=true:=decide_eq_true (by show 0≤n∧n≤65535;omega)
     rw [e]
     clear e
     go_enter Tryz.func99,Tryz.ntmps99
     go_wp2
     go_ret
     exact ⟨rfl,rfl⟩
theorem value_i8 (n:Nat):wrap64 (IntKind.i8.wrap (n:Int))=valueI 1 n:=by
 have e:IntKind.i8.wrap (n:Int)=if n % 256 < 128 then ((n % 256:Nat):Int) else ((n % 256:Nat):Int) - 256:=by
   simp [IntKind.wrap,IntKind.bits,IntKind.signed]
   split <;> split <;> omega
 rw [e]
 unfold valueI wrap64
 rw [if_pos rfl]
 split <;> omega
theorem value_i16 (n:Nat):wrap64 (IntKind.i16.wrap (n:Int))=valueI 2 n:=by
 have e:IntKind.i16.wrap (n:Int)=if n % 65536 < 32768 then ((n % 65536:Nat):Int) else ((n % 65536:Nat):Int) - 65536:=by
   simp [IntKind.wrap,IntKind.bits,IntKind.signed]
   split <;> split <;> omega
 rw [e]
 unfold valueI wrap64
 rw [if_neg (show ¬ (2:Nat)=1 by omega),if_pos rfl]
 split <;> omega
theorem value_else {sh n:Nat} (h1:sh≠1) (h2:sh≠2):wrap64 (n:Int)=valueI sh n:=by unfold valueI;rw [if_neg h1,if_neg h2]
theorem value_calls (sh:Nat) (h:sh≤6) (n:Nat) (_hn:n < 18446744073709551616) (w:World):Calls Tryz.prog 98 #[.int .u8 (sh:Int),.int .u64 (n:Int)] w (Just (.int .i64 (valueI sh n)) w):=by
 rcases seven h with rfl | rfl | rfl | rfl | rfl | rfl | rfl
 all_goals
   clear h
   go_enter Tryz.func98,Tryz.ntmps98
   go_wp2
   go_ret
   refine ⟨ret_int ?_,rfl⟩
   first | exact value_i8 n | exact value_i16 n | exact value_else (by omega) (by omega)
end Cod
section
open Go.RowKit
variable {w0:World} {X:List Nat} {Cs:List Comp} {w:World} {x:Nat} {k:PCfg} {f:PF}
def progN (k:PCfg) (f:PF):Array Value:=#[.int .i64 k.raw,.int .i64 k.c.ring,.int .i64 k.c.writes,.int .i64 k.c.stamps,.bool k.c.multi,.int .i64 k.tries,.slice none 0 0,.int .i64 k.cells,f.rv,.string k.code,f.av,.int .i64 f.nth,
 .pointer none,.bool f.begun,.bool f.published,.int .i64 f.at_,f.sv,f.cv,f.tv,f.came.val,f.ask,.int .i64 f.word,f.ov,.bool f.over,.int .i64 f.err]
def progNO (k:PCfg) (f:PF):Obj:=.cells (progN k f) 100 (0,0)
theorem Told_nil (n:Int) (w:World):Calls Tryz.prog 54 #[.pointer none,.int .i64 n] w (fun e w'=>e=.returned (.slice none 0 0)∧w=w'):=by
 go_enter Tryz.func54,Tryz.ntmps54
 go_wp2
 go_ret
 exact ⟨rfl,rfl⟩
theorem progN_try (k:PCfg) (f:PF) (tx:Nat):(((((((((((progN k f).setIfInBounds 12 (ptr tx)).setIfInBounds 13 (.bool false)).setIfInBounds 14 (.bool false)).setIfInBounds 15 (.int .i64 0)).setIfInBounds 16 (.slice none 0 0)).setIfInBounds 17 (.slice none 0 0)).setIfInBounds 18 (.slice none 0 0)).setIfInBounds 19 .nilFunc).setIfInBounds 20 .nilIface).setIfInBounds 21 (.int .i64 0)).setIfInBounds 11 (.int .i64 (f.nth+1))=progA k (newPF f tx f.ov):=by
 simp [progN,progA,newPF,CameD.val]
theorem Sep.pTryN (h:Sep w0 X (cBlk x (progNO k f)::Cs) w) (tx:Nat):Sep w0 X (cBlk x (progO k (newPF f tx f.ov))::Cs)
   (((((((((((w.setCell ⟨x,12,none⟩ (ptr tx)).setCell ⟨x,13,none⟩ (.bool false)).setCell ⟨x,14,none⟩ (.bool false)).setCell ⟨x,15,none⟩ (.int .i64 0)).setCell ⟨x,16,none⟩ (.slice none 0 0)).setCell ⟨x,17,none⟩ (.slice none 0 0)).setCell ⟨x,18,none⟩ (.slice none 0 0)).setCell ⟨x,19,none⟩ .nilFunc).setCell ⟨x,20,none⟩ .nilIface).setCell ⟨x,21,none⟩ (.int .i64 0)).setCell ⟨x,11,none⟩ (.int .i64 (f.nth+1))):=by
 have h6:=((((((((((h.set 12 (ptr tx)).set 13 (.bool false)).set 14 (.bool false)).set 15 (.int .i64 0)).set 16 (.slice none 0 0)).set 17 (.slice none 0 0)).set 18 (.slice none 0 0)).set 19 .nilFunc).set 20 .nilIface).set 21 (.int .i64 0)).set 11 (.int .i64 (f.nth+1))
 rw [progN_try] at h6
 exact h6
theorem Sep.pOvN (h:Sep w0 X (cBlk x (progNO k f)::Cs) w) (hov:f.ov=.slice none 0 0):Sep w0 X (cBlk x (progNO k f)::Cs) (w.setCell ⟨x,22,none⟩ (.slice none 0 0)):=by
 have h6:=h.set 22 (.slice none 0 0)
 have e:(progN k f).setIfInBounds 22 (.slice none 0 0)=progN k f:=by rw [← hov];simp [progN]
 rw [e] at h6
 exact h6
theorem again_new (hS:Sep w0 X (cBlk x (progNO k f)::Cs) w) (hc:CfgOk k.c) (hov:f.ov=.slice none 0 0) (hnth:0≤f.nth∧f.nth≤1000) :
   Calls Tryz.prog 38 #[ptr x] w (fun e w'=>e=.returned (.tuple #[])∧∃ tx F',Sep w0 X (cBlk x (progO k (newPF f tx f.ov))::cTx tx (newTx k.c.ring k.c.writes k.c.stamps k.c.multi) F'::Cs) w'):=by
 obtain ⟨i0,yi,yz0,yz1,yz2⟩:=info_parts infoEv
 have hlt:=heap_lt hS.h0
 have c12:=hS.cell 12
 have c22:=hS.cell 22
 have f22:=hS.froz 22
 have hp12:(progN k f)[12]?=some (.pointer none):=by simp [progN]
 have hp22:(progN k f)[22]?=some (.slice none 0 0):=by rw [← hov];simp [progN]
 rw [hp12] at c12
 rw [hp22] at c22
 have hap:∀ (ty:TypeId) (b:Option Addr) (c:Nat) (W:World),(Builtin.append_ #[37,37] ty #[.slice none 0 0,.slice b 0 c]).run Tryz.prog W=.ok (.slice none 0 0) W:=fun ty b c W=>append_none0 _ ty _ i0 Tryz.underlying37 yi b c
 have S7:=hS.pOvN hov
 have e12:=S7.drew.cell 12
 have e22:=S7.drew.cell 22
 have e12':=S7.cell 12
 have e22':=S7.cell 22
 rw [hp12] at e12 e12'
 rw [hp22] at e22 e22'
 have HS7:=kH S7
 have HS:=kH hS
 have HC:=kH hc
 have HOV:=kH hov
 clear hS hc hov hp12 hp22 S7
 unfold ptr at *
 go_enter Tryz.func38,Tryz.ntmps38
 go_wp2_with fail
 go_region_held3 (fun w'=>w'.cell? ⟨x,12,none⟩=some (.pointer none)∧w'.cell? ⟨x,22,none⟩=some (.slice none 0 0)) (first | exact ⟨e12,e22⟩ | exact ⟨e12',e22'⟩ | go_keep) ((go_at_call 54;refine (Told_nil _ _).mono ?_;rintro e1 w1 ⟨rfl,rfl⟩))
 have S7:=HS7.out.drew
 clear e12 e22 e12' e22' c12 c22 f22 hlt
 generalize (w.setCell ⟨x,22,none⟩ (.slice none 0 0)).drew=w6 at *
 have hk:=fun j=>S7.cell j
 have d0:=hk 0
 have d1:=hk 1
 have d2:=hk 2
 have d3:=hk 3
 have d4:=hk 4
 have d5:=hk 5
 have d6:=hk 6
 simp only [progN,gA,gZ,gS] at d0 d1 d2 d3 d4 d5 d6
 have HN:=kH (New_tx S7 k.raw k.tries none 0 0 k.c HC.out)
 unfold cfgV at HN
 clear S7 hk
 go_wp2_with fail
 refine HN.out.mono ?_
 rintro e7 w7 ⟨tx',q',rfl,hm,hR,S8⟩
 have S9:=Sep.txOutN [_] S8
 have hk:=fun j=>S9.cell j
 have c11:=hk 11
 have c12':=hk 12
 have c13:=hk 13
 have c14:=hk 14
 have c15:=hk 15
 have c16:=hk 16
 have c17:=hk 17
 have c18:=hk 18
 have c19:=hk 19
 have c20:=hk 20
 have c21:=hk 21
 have f11:=S9.froz 11
 have f12:=S9.froz 12
 have f13:=S9.froz 13
 have f14:=S9.froz 14
 have f15:=S9.froz 15
 have f16:=S9.froz 16
 have f17:=S9.froz 17
 have f18:=S9.froz 18
 have f19:=S9.froz 19
 have f20:=S9.froz 20
 have f21:=S9.froz 21
 simp only [progN,gA,gZ,gS] at c11 c12' c13 c14 c15 c16 c17 c18 c19 c20 c21
 have HS9:=kH S9
 have HM:=kH hm
 have HR:=kH hR
 have hnth':0≤f.nth+1∧f.nth+1≤1001:=by omega
 have HNT:=kH (show IntKind.i64.wrap (f.nth+1)=f.nth+1 from IntWalk.i64_in _ (by omega))
 clear S8 S9 hk hm hR d0 d1 d2 d3 d4 d5 d6
 unfold ptr at *
 go_wp2
 go_end0
 have A:=HS9.out.pTryN tx'
 have B1:Sep w0 X (txC tx' q' (wayV (newTx k.c.ring k.c.writes k.c.stamps k.c.multi).way 0) (.slice none 0 0) (newTx k.c.ring k.c.writes k.c.stamps k.c.multi) (wayC 0 0 .nilFunc (newTx k.c.ring k.c.writes k.c.stamps k.c.multi).way ([_]++Cs))) _:=Sep.txInN [_] A
 obtain ⟨F',B2⟩:=Sep.txClose (by rw [HM.out];rfl) HR.out B1
 exact ⟨rfl,tx',F',B2.sw⟩
end
section
theorem bulk_one {H:Type} (d:DataW H):1≤Rows.uptoBulk d:=by
 cases d with
 | lit l=>cases l <;> simp [Rows.uptoBulk]
 | nil=>simp [Rows.uptoBulk]
 | ptr d=>simp [Rows.uptoBulk]
 | slice elems spare=>simp [Rows.uptoBulk]
 | agg parts=>simp [Rows.uptoBulk]
 | iface t d=>simp [Rows.uptoBulk]
 | map entries=>simp [Rows.uptoBulk]
 | held h=>simp [Rows.uptoBulk]
theorem bulk_len {H:Type} (l:List (DataW H)):l.length≤Rows.uptoBulkAll l:=by
 induction l with
 | nil=>simp [Rows.uptoBulkAll]
 | cons x r ih=>have:=bulk_one x;simp only [Rows.uptoBulkAll,List.length_cons];omega
theorem bulk_two {H:Type} {d e:DataW H} (h:Rows.uptoSmall H ([d,e]++[])=true):Rows.uptoBulk e≤1048576:=by
 have h2:=of_decide_eq_true h
 simp only [Rows.uptoBulkAll,List.append_nil] at h2
 omega
end
end Go.Proofs.YtgfogfciobmmpaaGreatDoor
