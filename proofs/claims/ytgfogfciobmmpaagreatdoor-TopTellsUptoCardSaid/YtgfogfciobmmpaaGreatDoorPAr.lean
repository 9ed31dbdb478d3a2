/- A part of the proof of the law TopTells: CntMach CntNew15 ChnMachC18f. -/
import Derived.Test.YtgfogfciobmmpaaGreatDoorPAq
import Derived.KernelRfl
import Derived.BigRegion
set_option linter.unusedSimpArgs false
set_option linter.unusedVariables false
set_option maxRecDepth 100000
set_option maxHeartbeats 8000000
namespace Go.Proofs.YtgfogfciobmmpaaGreatDoor
namespace Cnt
open Go.RowKit
structure MS where
 cell:Int
 add:Bool
 bys:Int
 phase:Int
 last:WantS
def MS.cells (m:MS):Array Value:=#[.int .i64 m.cell,.bool m.add,.int .i64 m.bys,.int .i64 m.phase,.int .i64 m.last.kind,.int .i64 m.last.cell,.int .i64 m.last.value,.int .i64 m.last.code]
def Rep (w:World) (p:Nat) (m:MS) (F:List Nat):Prop:=F=[p]∧w.heap[p]?=some (.cells m.cells 227 (0,0))
def outM (m:MS) (v:Int):WantS :=
 if m.phase=0 then readS m.cell
 else if m.phase=1 then (if m.add then putS m.cell (wrap64 (v+m.bys)) else ⟨6,0,wrap64 (v+m.bys),0⟩)
 else m.last
def stepM (m:MS) (v:Int):MS :=
 if m.phase=0 then { m with phase:=1 }
 else if m.phase=1 then { m with phase:=if m.add then 2 else 3,last:=⟨6,0,wrap64 (v+m.bys),0⟩ }
 else m
def NextPost (p:Nat) (m:MS) (F:List Nat) (v:Int) (w:World) (e:Ending) (w':World):Prop :=
 e=.returned (outM m v).val∧w.grownBy w' (some p)∧∃ F',Rep w' p (stepM m v) F'∧∀ k∈F',k∈F∨w.heap.size≤k
theorem Next_calls (w:World) (p:Nat) (m:MS) (F:List Nat) (v:Int) (hr:Rep w p m F) :
   Calls Tryz.prog 285 #[.pointer (some ⟨p,0,none⟩),.int .i64 v] w (NextPost p m F v w):=by
 obtain ⟨rfl,hp⟩:=hr
 have hlt:p < w.heap.size:=(Array.getElem?_eq_some_iff.1 hp).1
 obtain ⟨c,ad,b,ph,⟨l0,l1,l2,l3⟩⟩:=m
 unfold MS.cells at hp
 have hc:∀ j,w.cell? ⟨p,j,none⟩=_:=fun j=>cell_of_row w p j _ _ _ hp
 have hf:∀ j,w.frozen? ⟨p,j,none⟩=false:=fun j=>frozen_of_row w p j _ _ hp
 have h0:=hc 0
 have h1:=hc 1
 have h2:=hc 2
 have h3:=hc 3
 have h4:=hc 4
 have h5:=hc 5
 have h6:=hc 6
 have h7:=hc 7
 simp at h0 h1 h2 h3 h4 h5 h6 h7
 have f3:=hf 3
 have f4:=hf 4
 have f5:=hf 5
 have f6:=hf 6
 have f7:=hf 7
 have HP:=kH hp
 clear hp hc hf
 by_cases hp0:ph=0
 · subst hp0
   go_enter Tryz.func285,Tryz.ntmps285
   go_wp2
   refine bodyPost_ret (results_cell_row rfl _ _ _ _ _ _ _ rfl (heap_new (by simp)) Tryz.underlying109 rfl infoWant) rfl ⟨rfl,grown_alloc (grown_set (grown_refl _ _) _) _,[p],⟨rfl,?_⟩,fun k hk=>.inl (by simpa using hk)⟩
   exact kO (heap_set HP.out)
 · have hp0':(ph == 0)=false:=by simpa using hp0
   by_cases hp1:ph=1
   · subst hp1
     cases ad
     · go_enter Tryz.func285,Tryz.ntmps285
       go_wp2
       refine bodyPost_ret (results_cell_row rfl _ _ _ _ _ _ _ rfl (heap_new (by simp)) Tryz.underlying109 rfl infoWant) rfl ⟨rfl,grown_alloc (grown_set (grown_set (grown_set (grown_set (grown_set (grown_refl _ _) _) _) _) _) _) _,[p],⟨rfl,?_⟩,fun k hk=>.inl (by simpa using hk)⟩
       exact kO (heap_set (heap_set (heap_set (heap_set (heap_set HP.out)))))
     · go_enter Tryz.func285,Tryz.ntmps285
       go_wp2
       go_region
       go_wp2
       refine bodyPost_ret (results_cell_row rfl _ _ _ _ _ _ _ rfl (heap_new (by simp)) Tryz.underlying109 rfl infoWant) rfl ⟨rfl,grown_drew (grown_alloc (grown_set (grown_set (grown_set (grown_set (grown_set (grown_set (grown_refl _ _) _) _) _) _) _) _) _),[p],⟨rfl,?_⟩,fun k hk=>.inl (by simpa using hk)⟩
       exact kO (heap_set (heap_set (heap_set (heap_set (heap_set (heap_set HP.out))))))
   · have hp1':(ph == 1)=false:=by simpa using hp1
     have ho:outM ⟨c,ad,b,ph,⟨l0,l1,l2,l3⟩⟩ v=⟨l0,l1,l2,l3⟩:=by simp [outM,hp0,hp1]
     have hs:stepM ⟨c,ad,b,ph,⟨l0,l1,l2,l3⟩⟩ v=⟨c,ad,b,ph,⟨l0,l1,l2,l3⟩⟩:=by simp [stepM,hp0,hp1]
     unfold NextPost
     rw [ho,hs]
     clear hp0 hp1 ho hs
     go_enter Tryz.func285,Tryz.ntmps285
     go_wp2
     refine bodyPost_ret (results_cell_row rfl _ _ _ _ _ _ _ rfl (heap_new (by simp)) Tryz.underlying109 rfl infoWant) rfl ⟨rfl,grown_alloc (grown_refl _ _) _,[p],⟨rfl,?_⟩,fun k hk=>.inl (by simpa using hk)⟩
     exact kO HP.out
end Cnt
namespace Cnt
open Go.RowKit
def arityI (c:Int):Int:=if c=1 then 2 else if c=2 then 1 else -1
theorem arity_calls (c:Int) (w:World):Calls Tryz.prog 149 #[.int .i64 c] w (Just (.int .i64 (arityI c)) w):=by
 rcases (show c=1∨c=2∨(c≠1∧c≠2) from by omega) with rfl | rfl | ⟨h1,h2⟩
 · go_enter Tryz.func149,Tryz.ntmps149
   go_wp2
   go_ret
   exact ⟨rfl,rfl⟩
 · go_enter Tryz.func149,Tryz.ntmps149
   go_wp2
   go_ret
   exact ⟨rfl,rfl⟩
 · have e:arityI c = -1:=by simp [arityI,h1,h2]
   rw [e]
   have h1':(c == 1)=false:=by simpa using h1
   have h2':(c == 2)=false:=by simpa using h2
   clear h1 h2 e
   go_enter Tryz.func149,Tryz.ntmps149
   go_wp2
   go_ret
   exact ⟨rfl,rfl⟩
def initM (base most call:Int) (xs:List Int):MS :=
 if xs.getD 0 0 < 0∨most≤xs.getD 0 0 then ⟨0,false,0,3,⟨6,0,0,1⟩⟩
 else ⟨base+xs.getD 0 0,decide (call=1),if call=1 then xs.getD 1 0 else 0,0,w0⟩
def NewPost (m:MS) (w:World) (e:Ending) (w':World):Prop :=
 e=.returned (.tuple #[.pointer (some ⟨w.heap.size,0,none⟩),.int .i64 0])∧Below w.heap.size w w'∧∃ F,Rep w' w.heap.size m F∧∀ k∈F,w.heap.size≤k
theorem list_two {xs:List Int} (h:xs.length=2):∃ i d,xs=[i,d]:=by
 match xs,h with
 | [i,d],_=>exact ⟨i,d,rfl⟩
theorem list_one {xs:List Int} (h:xs.length=1):∃ i,xs=[i]:=by
 match xs,h with
 | [i],_=>exact ⟨i,rfl⟩
theorem New_yes (w:World) (B:Nat) (base most call:Int) (a:Value) (xs:List Int) (ha:Reads w B a xs) (hB:B≤w.heap.size) (hyes:takesB base most (arityI call) xs.length=true) :
   Calls Tryz.prog 102 #[.int .i64 base,.int .i64 most,.int .i64 call,a] w (NewPost (initM base most call xs) w):=by
 obtain ⟨hxl,hxr,a,ca,rfl,hca,ha⟩:=ha
 obtain ⟨⟨hm0,hm16⟩,hb0,hb1,har⟩:=of_decide_eq_true hyes
 clear hyes
 have hcase:call=1∧xs.length=2∨(call=2∧xs.length=1):=by
   unfold arityI at har
   split at har
   · left;omega
   · split at har
     · right;omega
     · omega
 rcases hcase with ⟨rfl,hl⟩ | ⟨rfl,hl⟩
 · obtain ⟨i,d,rfl⟩:=list_two hl
   rcases ha with h | ⟨b,off,rfl,hBb,hcell⟩
   · cases h
   have c0:=hcell 0 (by simp)
   have c1:=hcell 1 (by simp)
   simp at c0 c1
   have hri:=hxr i (by simp)
   have hrd:=hxr d (by simp)
   have hbs:b < w.heap.size:=by omega
   have hbne:b≠w.heap.size:=by omega
   clear hcell hl har hxr
   rcases (show i < 0∨(0≤i∧most≤i)∨(0≤i∧i < most) from by omega) with h | ⟨h,h'⟩ | ⟨h,h'⟩
   · have hin:initM base most 1 [i,d]=⟨0,false,0,3,⟨6,0,0,1⟩⟩:=if_pos (.inl (by simpa using h))
     rw [hin];clear hin
     go_enter Tryz.func102,Tryz.ntmps102
     go_wp2_with (go_at_call 149;refine (arity_calls _ _).mono ?_;rintro e w' ⟨rfl,rfl⟩;simp only [show arityI 1=2 from rfl])
     go_ret2
     exact ⟨rfl,below_alloc _ _,_,⟨rfl,Go.heap_alloc_new _ _⟩,by simp⟩
   · have hin:initM base most 1 [i,d]=⟨0,false,0,3,⟨6,0,0,1⟩⟩:=if_pos (.inr (by simpa using h'))
     rw [hin];clear hin
     go_enter Tryz.func102,Tryz.ntmps102
     go_wp2_with (go_at_call 149;refine (arity_calls _ _).mono ?_;rintro e w' ⟨rfl,rfl⟩;simp only [show arityI 1=2 from rfl])
     go_ret2
     exact ⟨rfl,below_alloc _ _,_,⟨rfl,Go.heap_alloc_new _ _⟩,by simp⟩
   · have hin:initM base most 1 [i,d]=⟨base+i,true,d,0,w0⟩:=by
       rw [initM,if_neg (by simp;omega)];simp
     rw [hin];clear hin
     go_enter Tryz.func102,Tryz.ntmps102
     go_wp2_with (go_at_call 149;refine (arity_calls _ _).mono ?_;rintro e w' ⟨rfl,rfl⟩;simp only [show arityI 1=2 from rfl])
     go_ret2
     exact ⟨rfl,below_alloc _ _,_,⟨rfl,Go.heap_alloc_new _ _⟩,by simp⟩
 · obtain ⟨i,rfl⟩:=list_one hl
   rcases ha with h | ⟨b,off,rfl,hBb,hcell⟩
   · cases h
   have c0:=hcell 0 (by simp)
   simp at c0
   have hri:=hxr i (by simp)
   have hbs:b < w.heap.size:=by omega
   have hbne:b≠w.heap.size:=by omega
   clear hcell hl har hxr
   rcases (show i < 0∨(0≤i∧most≤i)∨(0≤i∧i < most) from by omega) with h | ⟨h,h'⟩ | ⟨h,h'⟩
   · have hin:initM base most 2 [i]=⟨0,false,0,3,⟨6,0,0,1⟩⟩:=if_pos (.inl (by simpa using h))
     rw [hin];clear hin
     go_enter Tryz.func102,Tryz.ntmps102
     go_wp2_with (go_at_call 149;refine (arity_calls _ _).mono ?_;rintro e w' ⟨rfl,rfl⟩;simp only [show arityI 2=1 from rfl])
     go_ret2
     exact ⟨rfl,below_alloc _ _,_,⟨rfl,Go.heap_alloc_new _ _⟩,by simp⟩
   · have hin:initM base most 2 [i]=⟨0,false,0,3,⟨6,0,0,1⟩⟩:=if_pos (.inr (by simpa using h'))
     rw [hin];clear hin
     go_enter Tryz.func102,Tryz.ntmps102
     go_wp2_with (go_at_call 149;refine (arity_calls _ _).mono ?_;rintro e w' ⟨rfl,rfl⟩;simp only [show arityI 2=1 from rfl])
     go_ret2
     exact ⟨rfl,below_alloc _ _,_,⟨rfl,Go.heap_alloc_new _ _⟩,by simp⟩
   · have hin:initM base most 2 [i]=⟨base+i,false,0,0,w0⟩:=by
       rw [initM,if_neg (by simp;omega)];simp
     rw [hin];clear hin
     go_enter Tryz.func102,Tryz.ntmps102
     go_wp2_with (go_at_call 149;refine (arity_calls _ _).mono ?_;rintro e w' ⟨rfl,rfl⟩;simp only [show arityI 2=1 from rfl])
     go_ret2
     exact ⟨rfl,below_alloc _ _,_,⟨rfl,Go.heap_alloc_new _ _⟩,by simp⟩
end Cnt
namespace Chn
open Go.RowKit
theorem next_least (w:World) (p:Nat) (base most:Int) (B:List Ent) (v:Int)  (bx:Nat) (h:Lies w p base most (.func (.func 156) #[] #[.pointer (some ⟨bx,0,none⟩)])) (hs:Store w p B) (hb:inB base most) (hbx:XB B p bx) :
   Calls Tryz.prog 288 #[.pointer (some ⟨p,0,none⟩),.int .i64 v] w (StepPost p base most B (goK base most (.least) v) w):=by
 have Hbx:=kH hbx
 have HS:=kH hs
 have HP:=kH h
 have HB:=kH hb
 obtain ⟨⟨c0,c1,c2⟩,f2,hlt⟩:=lies3 h
 clear h hs hb hbx
 have hgo:goK base most (.least) v=(readS (base+0),K.keyOf):=rfl
 rw [hgo]
 clear hgo
 go_enter Tryz.func288,Tryz.ntmps288
 go_wp2_with fail
 refine (least_step _ p base most (.func (.func 156) #[] #[.pointer (some ⟨bx,0,none⟩)]) B v bx (by first | exact HP.out | exact kO HP.out | exact kO (kO HP.out) | exact kO (kO (kO HP.out)) | exact kO (kO (kO (kO HP.out))) | exact kO (kO (kO (kO (kO HP.out)))) | exact kO (kO (kO (kO (kO (kO HP.out)))))) (HS.out.keep (by repeat (first | exact grown_refl _ _ | refine grown_alloc ?_ _ | refine grown_drewN ?_ _ | refine grown_drew ?_))) HB.out Hbx.out).mono ?_
 rintro e w1 ⟨rfl,post⟩
 have hg1:=box_grown post.1 (show (World.heap _)[w.heap.size]?=some (.cells #[.int .i64 0,.int .i64 0,.int .i64 0,.int .i64 0] 109 (0,0)) from heap_new (by simp)) (by omega)
 obtain ⟨⟨d0,d1,d2,d3⟩,⟨g0,g1,g2,g3⟩,hz⟩:=box4 hg1
 have POST:=kH post
 clear post
 generalize (readS (base+0),K.keyOf)=r at *
 obtain ⟨⟨r0,r1,r2,r3⟩,kk⟩:=r
 simp only [WantS.val]
 go_wp2
 exact bodyPost_ret (results_cell_row rfl _ _ _ _ _ _ _ rfl (heap_set (heap_set (heap_set (heap_set hg1)))) Tryz.underlying109 rfl infoWant) rfl (close_step (g:=w.heap.size) (M:=[]) (by repeat (first | exact grown_refl _ _ | refine grown_alloc ?_ _ | refine grown_drewN ?_ _ | refine grown_drew ?_)) hlt (by omega) (by simp) (fun x hx=>nomatch hx) ⟨rfl,POST.out⟩ rfl)
theorem next_len (w:World) (p:Nat) (base most:Int) (B:List Ent) (v:Int)  (bx:Nat) (h:Lies w p base most (.func (.func 159) #[] #[.pointer (some ⟨bx,0,none⟩)])) (hs:Store w p B) (hb:inB base most) (hbx:XB B p bx) :
   Calls Tryz.prog 288 #[.pointer (some ⟨p,0,none⟩),.int .i64 v] w (StepPost p base most B (goK base most (.len) v) w):=by
 have Hbx:=kH hbx
 have HS:=kH hs
 have HP:=kH h
 have HB:=kH hb
 obtain ⟨⟨c0,c1,c2⟩,f2,hlt⟩:=lies3 h
 clear h hs hb hbx
 have hgo:goK base most (.len) v=(readS (base+0),K.counts 0):=rfl
 rw [hgo]
 clear hgo
 go_enter Tryz.func288,Tryz.ntmps288
 go_wp2_with fail
 refine (len_step _ p base most (.func (.func 159) #[] #[.pointer (some ⟨bx,0,none⟩)]) B v bx (by first | exact HP.out | exact kO HP.out | exact kO (kO HP.out) | exact kO (kO (kO HP.out)) | exact kO (kO (kO (kO HP.out))) | exact kO (kO (kO (kO (kO HP.out)))) | exact kO (kO (kO (kO (kO (kO HP.out)))))) (HS.out.keep (by repeat (first | exact grown_refl _ _ | refine grown_alloc ?_ _ | refine grown_drewN ?_ _ | refine grown_drew ?_))) HB.out Hbx.out).mono ?_
 rintro e w1 ⟨rfl,post⟩
 have hg1:=box_grown post.1 (show (World.heap _)[w.heap.size]?=some (.cells #[.int .i64 0,.int .i64 0,.int .i64 0,.int .i64 0] 109 (0,0)) from heap_new (by simp)) (by omega)
 obtain ⟨⟨d0,d1,d2,d3⟩,⟨g0,g1,g2,g3⟩,hz⟩:=box4 hg1
 have POST:=kH post
 clear post
 generalize (readS (base+0),K.counts 0)=r at *
 obtain ⟨⟨r0,r1,r2,r3⟩,kk⟩:=r
 simp only [WantS.val]
 go_wp2
 exact bodyPost_ret (results_cell_row rfl _ _ _ _ _ _ _ rfl (heap_set (heap_set (heap_set (heap_set hg1)))) Tryz.underlying109 rfl infoWant) rfl (close_step (g:=w.heap.size) (M:=[]) (by repeat (first | exact grown_refl _ _ | refine grown_alloc ?_ _ | refine grown_drewN ?_ _ | refine grown_drew ?_)) hlt (by omega) (by simp) (fun x hx=>nomatch hx) ⟨rfl,POST.out⟩ rfl)
theorem next_start (w:World) (p:Nat) (base most:Int) (B:List Ent) (v:Int) (call k:Int) (bx bk bc:Nat) (h:Lies w p base most (.func (.func 161) #[] #[.pointer (some ⟨bx,0,none⟩),.pointer (some ⟨bk,0,none⟩),.pointer (some ⟨bc,0,none⟩)])) (hs:Store w p B) (hb:inB base most) (hbx:XB B p bx) (hbk:VB B k bk) (hbc:IB B call bc) :
   Calls Tryz.prog 288 #[.pointer (some ⟨p,0,none⟩),.int .i64 v] w (StepPost p base most B (goK base most (.start call k) v) w):=by
 have Hbx:=kH hbx
 have Hbk:=kH hbk
 have Hbc:=kH hbc
 have HS:=kH hs
 have HP:=kH h
 have HB:=kH hb
 obtain ⟨⟨c0,c1,c2⟩,f2,hlt⟩:=lies3 h
 clear h hs hb hbx hbk hbc
 have hgo:goK base most (.start call k) v=(readS (base+0),K.goes call k 0 0):=rfl
 rw [hgo]
 clear hgo
 go_enter Tryz.func288,Tryz.ntmps288
 go_wp2_with fail
 refine (start_step _ p base most (.func (.func 161) #[] #[.pointer (some ⟨bx,0,none⟩),.pointer (some ⟨bk,0,none⟩),.pointer (some ⟨bc,0,none⟩)]) B call k v bx bk bc (by first | exact HP.out | exact kO HP.out | exact kO (kO HP.out) | exact kO (kO (kO HP.out)) | exact kO (kO (kO (kO HP.out))) | exact kO (kO (kO (kO (kO HP.out)))) | exact kO (kO (kO (kO (kO (kO HP.out)))))) (HS.out.keep (by repeat (first | exact grown_refl _ _ | refine grown_alloc ?_ _ | refine grown_drewN ?_ _ | refine grown_drew ?_))) HB.out Hbx.out Hbk.out Hbc.out).mono ?_
 rintro e w1 ⟨rfl,post⟩
 have hg1:=box_grown post.1 (show (World.heap _)[w.heap.size]?=some (.cells #[.int .i64 0,.int .i64 0,.int .i64 0,.int .i64 0] 109 (0,0)) from heap_new (by simp)) (by omega)
 obtain ⟨⟨d0,d1,d2,d3⟩,⟨g0,g1,g2,g3⟩,hz⟩:=box4 hg1
 have POST:=kH post
 clear post
 generalize (readS (base+0),K.goes call k 0 0)=r at *
 obtain ⟨⟨r0,r1,r2,r3⟩,kk⟩:=r
 simp only [WantS.val]
 go_wp2
 exact bodyPost_ret (results_cell_row rfl _ _ _ _ _ _ _ rfl (heap_set (heap_set (heap_set (heap_set hg1)))) Tryz.underlying109 rfl infoWant) rfl (close_step (g:=w.heap.size) (M:=[]) (by repeat (first | exact grown_refl _ _ | refine grown_alloc ?_ _ | refine grown_drewN ?_ _ | refine grown_drew ?_)) hlt (by omega) (by simp) (fun x hx=>nomatch hx) ⟨rfl,POST.out⟩ rfl)
theorem next_keyOf (w:World) (p:Nat) (base most:Int) (B:List Ent) (v:Int)  (h:Lies w p base most (.func (.func 158) #[.pointer (some ⟨p,0,none⟩)] #[])) (hs:Store w p B) (hb:inB base most) :
   Calls Tryz.prog 288 #[.pointer (some ⟨p,0,none⟩),.int .i64 v] w (StepPost p base most B (goK base most (.keyOf) v) w):=by
 have HS:=kH hs
 have HP:=kH h
 have HB:=kH hb
 obtain ⟨⟨c0,c1,c2⟩,f2,hlt⟩:=lies3 h
 clear h hs hb
 have hgo:goK base most (.keyOf) v=(goK base most .keyOf v):=rfl
 rw [hgo]
 clear hgo
 go_enter Tryz.func288,Tryz.ntmps288
 go_wp2_with fail
 refine (keyOf_step _ p base most (.func (.func 158) #[.pointer (some ⟨p,0,none⟩)] #[]) B v (by first | exact HP.out | exact kO HP.out | exact kO (kO HP.out) | exact kO (kO (kO HP.out)) | exact kO (kO (kO (kO HP.out))) | exact kO (kO (kO (kO (kO HP.out)))) | exact kO (kO (kO (kO (kO (kO HP.out)))))) HB.out).mono ?_
 rintro e w1 ⟨rfl,post⟩
 have hg1:=box_grown post.1 (show (World.heap _)[w.heap.size]?=some (.cells #[.int .i64 0,.int .i64 0,.int .i64 0,.int .i64 0] 109 (0,0)) from heap_new (by simp)) (by omega)
 obtain ⟨⟨d0,d1,d2,d3⟩,⟨g0,g1,g2,g3⟩,hz⟩:=box4 hg1
 have POST:=kH post
 clear post
 generalize (goK base most .keyOf v)=r at *
 obtain ⟨⟨r0,r1,r2,r3⟩,kk⟩:=r
 simp only [WantS.val]
 go_wp2
 exact bodyPost_ret (results_cell_row rfl _ _ _ _ _ _ _ rfl (heap_set (heap_set (heap_set (heap_set hg1)))) Tryz.underlying109 rfl infoWant) rfl (close_step (g:=w.heap.size) (M:=[]) (by repeat (first | exact grown_refl _ _ | refine grown_alloc ?_ _ | refine grown_drewN ?_ _ | refine grown_drew ?_)) hlt (by omega) (by simp) (fun x hx=>nomatch hx) ⟨rfl,POST.out⟩ rfl)
theorem next_keyOf1 (w:World) (p:Nat) (base most:Int) (B:List Ent) (v:Int)  (bx:Nat) (h:Lies w p base most (.func (.func 189) #[] #[.pointer (some ⟨bx,0,none⟩)])) (hs:Store w p B) (hb:inB base most) (hbx:XB B p bx) :
   Calls Tryz.prog 288 #[.pointer (some ⟨p,0,none⟩),.int .i64 v] w (StepPost p base most B (goK base most (.keyOf1) v) w):=by
 have Hbx:=kH hbx
 have HS:=kH hs
 have HP:=kH h
 have HB:=kH hb
 obtain ⟨⟨c0,c1,c2⟩,f2,hlt⟩:=lies3 h
 clear h hs hb hbx
 have hgo:goK base most (.keyOf1) v=(endK v 0):=rfl
 rw [hgo]
 clear hgo
 go_enter Tryz.func288,Tryz.ntmps288
 go_wp2_with fail
 refine (keyOf1_step _ p base most (.func (.func 189) #[] #[.pointer (some ⟨bx,0,none⟩)]) B v bx (by first | exact HP.out | exact kO HP.out | exact kO (kO HP.out) | exact kO (kO (kO HP.out)) | exact kO (kO (kO (kO HP.out))) | exact kO (kO (kO (kO (kO HP.out)))) | exact kO (kO (kO (kO (kO (kO HP.out)))))) (HS.out.keep (by repeat (first | exact grown_refl _ _ | refine grown_alloc ?_ _ | refine grown_drewN ?_ _ | refine grown_drew ?_))) HB.out Hbx.out).mono ?_
 rintro e w1 ⟨rfl,post⟩
 have hg1:=box_grown post.1 (show (World.heap _)[w.heap.size]?=some (.cells #[.int .i64 0,.int .i64 0,.int .i64 0,.int .i64 0] 109 (0,0)) from heap_new (by simp)) (by omega)
 obtain ⟨⟨d0,d1,d2,d3⟩,⟨g0,g1,g2,g3⟩,hz⟩:=box4 hg1
 have POST:=kH post
 clear post
 generalize (endK v 0)=r at *
 obtain ⟨⟨r0,r1,r2,r3⟩,kk⟩:=r
 simp only [WantS.val]
 go_wp2
 exact bodyPost_ret (results_cell_row rfl _ _ _ _ _ _ _ rfl (heap_set (heap_set (heap_set (heap_set hg1)))) Tryz.underlying109 rfl infoWant) rfl (close_step (g:=w.heap.size) (M:=[]) (by repeat (first | exact grown_refl _ _ | refine grown_alloc ?_ _ | refine grown_drewN ?_ _ | refine grown_drew ?_)) hlt (by omega) (by simp) (fun x hx=>nomatch hx) ⟨rfl,POST.out⟩ rfl)
theorem next_counts (w:World) (p:Nat) (base most:Int) (B:List Ent) (v:Int) (n:Int) (bx bn:Nat) (h:Lies w p base most (.func (.func 190) #[] #[.pointer (some ⟨bx,0,none⟩),.pointer (some ⟨bn,0,none⟩)])) (hs:Store w p B) (hb:inB base most) (hbx:XB B p bx) (hbn:VB B n bn) (hn:0≤n∧n≤most) :
   Calls Tryz.prog 288 #[.pointer (some ⟨p,0,none⟩),.int .i64 v] w (StepPost p base most B (goK base most (.counts n) v) w):=by
 have Hbx:=kH hbx
 have Hbn:=kH hbn
 have HS:=kH hs
 have HP:=kH h
 have HB:=kH hb
 obtain ⟨⟨c0,c1,c2⟩,f2,hlt⟩:=lies3 h
 clear h hs hb hbx hbn
 have hgo:goK base most (.counts n) v=(goK base most (.counts n) v):=rfl
 rw [hgo]
 clear hgo
 go_enter Tryz.func288,Tryz.ntmps288
 go_wp2_with fail
 refine (counts1_step _ p base most (.func (.func 190) #[] #[.pointer (some ⟨bx,0,none⟩),.pointer (some ⟨bn,0,none⟩)]) B n v bx bn (by first | exact HP.out | exact kO HP.out | exact kO (kO HP.out) | exact kO (kO (kO HP.out)) | exact kO (kO (kO (kO HP.out))) | exact kO (kO (kO (kO (kO HP.out)))) | exact kO (kO (kO (kO (kO (kO HP.out)))))) (HS.out.keep (by repeat (first | exact grown_refl _ _ | refine grown_alloc ?_ _ | refine grown_drewN ?_ _ | refine grown_drew ?_))) HB.out Hbx.out Hbn.out hn).mono ?_
 rintro e w1 ⟨rfl,post⟩
 have hg1:=box_grown post.1 (show (World.heap _)[w.heap.size]?=some (.cells #[.int .i64 0,.int .i64 0,.int .i64 0,.int .i64 0] 109 (0,0)) from heap_new (by simp)) (by omega)
 obtain ⟨⟨d0,d1,d2,d3⟩,⟨g0,g1,g2,g3⟩,hz⟩:=box4 hg1
 have POST:=kH post
 clear post
 generalize (goK base most (.counts n) v)=r at *
 obtain ⟨⟨r0,r1,r2,r3⟩,kk⟩:=r
 simp only [WantS.val]
 go_wp2
 exact bodyPost_ret (results_cell_row rfl _ _ _ _ _ _ _ rfl (heap_set (heap_set (heap_set (heap_set hg1)))) Tryz.underlying109 rfl infoWant) rfl (close_step (g:=w.heap.size) (M:=[]) (by repeat (first | exact grown_refl _ _ | refine grown_alloc ?_ _ | refine grown_drewN ?_ _ | refine grown_drew ?_)) hlt (by omega) (by simp) (fun x hx=>nomatch hx) ⟨rfl,POST.out⟩ rfl)
theorem next_goes (w:World) (p:Nat) (base most:Int) (B:List Ent) (v:Int) (call k cell n:Int) (bx bn bt t1 t2 t3 bc bk:Nat) (h:Lies w p base most (.func (.func 192) #[] #[.pointer (some ⟨bx,0,none⟩),.pointer (some ⟨bn,0,none⟩),.pointer (some ⟨bt,0,none⟩),.pointer (some ⟨bc,0,none⟩),.pointer (some ⟨bk,0,none⟩)])) (hs:Store w p B) (hb:inB base most) (hbx:XB B p bx) (hbn:VB B n bn) (hbt:⟨bt,#[.func (.func 163) #[] #[.pointer (some ⟨t1,0,none⟩),.pointer (some ⟨t2,0,none⟩),.pointer (some ⟨t3,0,none⟩)]],245⟩∈B) (ht1:IB B call t1) (ht2:XB B p t2) (ht3:VB B k t3) (hbc:IB B cell bc) (hbk:VB B k bk) (hn:0≤n∧n≤most) :
   Calls Tryz.prog 288 #[.pointer (some ⟨p,0,none⟩),.int .i64 v] w (StepPost p base most B (goK base most (.goes call k cell n) v) w):=by
 have Hbx:=kH hbx
 have Hbn:=kH hbn
 have Hbt:=kH hbt
 have Ht1:=kH ht1
 have Ht2:=kH ht2
 have Ht3:=kH ht3
 have Hbc:=kH hbc
 have Hbk:=kH hbk
 have HS:=kH hs
 have HP:=kH h
 have HB:=kH hb
 obtain ⟨⟨c0,c1,c2⟩,f2,hlt⟩:=lies3 h
 clear h hs hb hbx hbn hbt ht1 ht2 ht3 hbc hbk
 have hgo:goK base most (.goes call k cell n) v=(goK base most (.goes call k cell n) v):=rfl
 rw [hgo]
 clear hgo
 go_enter Tryz.func288,Tryz.ntmps288
 go_wp2_with fail
 refine (goes1_step _ p base most (.func (.func 192) #[] #[.pointer (some ⟨bx,0,none⟩),.pointer (some ⟨bn,0,none⟩),.pointer (some ⟨bt,0,none⟩),.pointer (some ⟨bc,0,none⟩),.pointer (some ⟨bk,0,none⟩)]) B call k cell n v bx bn bt t1 t2 t3 bc bk (by first | exact HP.out | exact kO HP.out | exact kO (kO HP.out) | exact kO (kO (kO HP.out)) | exact kO (kO (kO (kO HP.out))) | exact kO (kO (kO (kO (kO HP.out)))) | exact kO (kO (kO (kO (kO (kO HP.out)))))) (HS.out.keep (by repeat (first | exact grown_refl _ _ | refine grown_alloc ?_ _ | refine grown_drewN ?_ _ | refine grown_drew ?_))) HB.out Hbx.out Hbn.out Hbt.out Ht1.out Ht2.out Ht3.out Hbc.out Hbk.out hn).mono ?_
 rintro e w1 ⟨rfl,post⟩
 have hg1:=box_grown post.1 (show (World.heap _)[w.heap.size]?=some (.cells #[.int .i64 0,.int .i64 0,.int .i64 0,.int .i64 0] 109 (0,0)) from heap_new (by simp)) (by omega)
 obtain ⟨⟨d0,d1,d2,d3⟩,⟨g0,g1,g2,g3⟩,hz⟩:=box4 hg1
 have POST:=kH post
 clear post
 generalize (goK base most (.goes call k cell n) v)=r at *
 obtain ⟨⟨r0,r1,r2,r3⟩,kk⟩:=r
 simp only [WantS.val]
 go_wp2
 exact bodyPost_ret (results_cell_row rfl _ _ _ _ _ _ _ rfl (heap_set (heap_set (heap_set (heap_set hg1)))) Tryz.underlying109 rfl infoWant) rfl (close_step (g:=w.heap.size) (M:=[]) (by repeat (first | exact grown_refl _ _ | refine grown_alloc ?_ _ | refine grown_drewN ?_ _ | refine grown_drew ?_)) hlt (by omega) (by simp) (fun x hx=>nomatch hx) ⟨rfl,POST.out⟩ rfl)
theorem next_goes1 (w:World) (p:Nat) (base most:Int) (B:List Ent) (v:Int) (call k cell n q:Int) (bk bt t1 t2 t3 bc bp bx bn:Nat) (h:Lies w p base most (.func (.func 193) #[] #[.pointer (some ⟨bk,0,none⟩),.pointer (some ⟨bt,0,none⟩),.pointer (some ⟨bc,0,none⟩),.pointer (some ⟨bp,0,none⟩),.pointer (some ⟨bx,0,none⟩),.pointer (some ⟨bn,0,none⟩)])) (hs:Store w p B) (hb:inB base most) (hbk:VB B k bk) (hbt:⟨bt,#[.func (.func 163) #[] #[.pointer (some ⟨t1,0,none⟩),.pointer (some ⟨t2,0,none⟩),.pointer (some ⟨t3,0,none⟩)]],245⟩∈B) (ht1:IB B call t1) (ht2:XB B p t2) (ht3:VB B k t3) (hbc:IB B cell bc) (hbp:VB B q bp) (hbx:XB B p bx) (hbn:VB B n bn) (hn:0≤n∧n < most) (hl:leadsP most q) :
   Calls Tryz.prog 288 #[.pointer (some ⟨p,0,none⟩),.int .i64 v] w (StepPost p base most B (goK base most (.goes1 call k cell n q) v) w):=by
 have Hbk:=kH hbk
 have Hbt:=kH hbt
 have Ht1:=kH ht1
 have Ht2:=kH ht2
 have Ht3:=kH ht3
 have Hbc:=kH hbc
 have Hbp:=kH hbp
 have Hbx:=kH hbx
 have Hbn:=kH hbn
 have HS:=kH hs
 have HP:=kH h
 have HB:=kH hb
 obtain ⟨⟨c0,c1,c2⟩,f2,hlt⟩:=lies3 h
 clear h hs hb hbk hbt ht1 ht2 ht3 hbc hbp hbx hbn
 have hgo:goK base most (.goes1 call k cell n q) v=(goK base most (.goes1 call k cell n q) v):=rfl
 rw [hgo]
 clear hgo
 go_enter Tryz.func288,Tryz.ntmps288
 go_wp2_with fail
 refine (goes11_step _ p base most (.func (.func 193) #[] #[.pointer (some ⟨bk,0,none⟩),.pointer (some ⟨bt,0,none⟩),.pointer (some ⟨bc,0,none⟩),.pointer (some ⟨bp,0,none⟩),.pointer (some ⟨bx,0,none⟩),.pointer (some ⟨bn,0,none⟩)]) B call k cell n q v bk bt t1 t2 t3 bc bp bx bn (by first | exact HP.out | exact kO HP.out | exact kO (kO HP.out) | exact kO (kO (kO HP.out)) | exact kO (kO (kO (kO HP.out))) | exact kO (kO (kO (kO (kO HP.out)))) | exact kO (kO (kO (kO (kO (kO HP.out)))))) (HS.out.keep (by repeat (first | exact grown_refl _ _ | refine grown_alloc ?_ _ | refine grown_drewN ?_ _ | refine grown_drew ?_))) HB.out Hbk.out Hbt.out Ht1.out Ht2.out Ht3.out Hbc.out Hbp.out Hbx.out Hbn.out hn hl).mono ?_
 rintro e w1 ⟨rfl,post⟩
 have hg1:=box_grown post.1 (show (World.heap _)[w.heap.size]?=some (.cells #[.int .i64 0,.int .i64 0,.int .i64 0,.int .i64 0] 109 (0,0)) from heap_new (by simp)) (by omega)
 obtain ⟨⟨d0,d1,d2,d3⟩,⟨g0,g1,g2,g3⟩,hz⟩:=box4 hg1
 have POST:=kH post
 clear post
 generalize (goK base most (.goes1 call k cell n q) v)=r at *
 obtain ⟨⟨r0,r1,r2,r3⟩,kk⟩:=r
 simp only [WantS.val]
 go_wp2
 exact bodyPost_ret (results_cell_row rfl _ _ _ _ _ _ _ rfl (heap_set (heap_set (heap_set (heap_set hg1)))) Tryz.underlying109 rfl infoWant) rfl (close_step (g:=w.heap.size) (M:=[]) (by repeat (first | exact grown_refl _ _ | refine grown_alloc ?_ _ | refine grown_drewN ?_ _ | refine grown_drew ?_)) hlt (by omega) (by simp) (fun x hx=>nomatch hx) ⟨rfl,POST.out⟩ rfl)
theorem next_addF (w:World) (p:Nat) (base most:Int) (B:List Ent) (v:Int) (k:Int) (d:WayD) (bx bl:Nat) (h:Lies w p base most (.func (.func 199) #[] #[.pointer (some ⟨bx,0,none⟩),.pointer (some ⟨bl,0,none⟩)])) (hs:Store w p B) (hb:inB base most) (hbx:XB B p bx) (hbl:LaysB B p k d bl) :
   Calls Tryz.prog 288 #[.pointer (some ⟨p,0,none⟩),.int .i64 v] w (StepPost p base most B (goK base most (.addF k d) v) w):=by
 have Hbx:=kH hbx
 have Hbl:=kH hbl
 have HS:=kH hs
 have HP:=kH h
 have HB:=kH hb
 obtain ⟨⟨c0,c1,c2⟩,f2,hlt⟩:=lies3 h
 clear h hs hb hbx hbl
 have hgo:goK base most (.addF k d) v=(goK base most (.addF k d) v):=rfl
 rw [hgo]
 clear hgo
 go_enter Tryz.func288,Tryz.ntmps288
 go_wp2_with fail
 refine (addF_step _ p base most (.func (.func 199) #[] #[.pointer (some ⟨bx,0,none⟩),.pointer (some ⟨bl,0,none⟩)]) B k v d bx bl (by first | exact HP.out | exact kO HP.out | exact kO (kO HP.out) | exact kO (kO (kO HP.out)) | exact kO (kO (kO (kO HP.out))) | exact kO (kO (kO (kO (kO HP.out)))) | exact kO (kO (kO (kO (kO (kO HP.out)))))) (HS.out.keep (by repeat (first | exact grown_refl _ _ | refine grown_alloc ?_ _ | refine grown_drewN ?_ _ | refine grown_drew ?_))) HB.out Hbx.out Hbl.out).mono ?_
 rintro e w1 ⟨rfl,post⟩
 have hg1:=box_grown post.1 (show (World.heap _)[w.heap.size]?=some (.cells #[.int .i64 0,.int .i64 0,.int .i64 0,.int .i64 0] 109 (0,0)) from heap_new (by simp)) (by omega)
 obtain ⟨⟨d0,d1,d2,d3⟩,⟨g0,g1,g2,g3⟩,hz⟩:=box4 hg1
 have POST:=kH post
 clear post
 generalize (goK base most (.addF k d) v)=r at *
 obtain ⟨⟨r0,r1,r2,r3⟩,kk⟩:=r
 simp only [WantS.val]
 go_wp2
 exact bodyPost_ret (results_cell_row rfl _ _ _ _ _ _ _ rfl (heap_set (heap_set (heap_set (heap_set hg1)))) Tryz.underlying109 rfl infoWant) rfl (close_step (g:=w.heap.size) (M:=[]) (by repeat (first | exact grown_refl _ _ | refine grown_alloc ?_ _ | refine grown_drewN ?_ _ | refine grown_drew ?_)) hlt (by omega) (by simp) (fun x hx=>nomatch hx) ⟨rfl,POST.out⟩ rfl)
theorem next_addQ (w:World) (p:Nat) (base most:Int) (B:List Ent) (v:Int) (k f:Int) (d:WayD) (bx bl bf:Nat) (h:Lies w p base most (.func (.func 200) #[] #[.pointer (some ⟨bx,0,none⟩),.pointer (some ⟨bl,0,none⟩),.pointer (some ⟨bf,0,none⟩)])) (hs:Store w p B) (hb:inB base most) (hbx:XB B p bx) (hbl:LaysB B p k d bl) (hbf:VB B f bf) :
   Calls Tryz.prog 288 #[.pointer (some ⟨p,0,none⟩),.int .i64 v] w (StepPost p base most B (goK base most (.addQ k d f) v) w):=by
 have Hbx:=kH hbx
 have Hbl:=kH hbl
 have Hbf:=kH hbf
 have HS:=kH hs
 have HP:=kH h
 have HB:=kH hb
 obtain ⟨⟨c0,c1,c2⟩,f2,hlt⟩:=lies3 h
 clear h hs hb hbx hbl hbf
 have hgo:goK base most (.addQ k d f) v=(putS (base+1) v,K.put (.lays1 k d f)):=rfl
 rw [hgo]
 clear hgo
 go_enter Tryz.func288,Tryz.ntmps288
 go_wp2_with fail
 refine (addQ_step _ p base most (.func (.func 200) #[] #[.pointer (some ⟨bx,0,none⟩),.pointer (some ⟨bl,0,none⟩),.pointer (some ⟨bf,0,none⟩)]) B k v f d bx bl bf (by first | exact HP.out | exact kO HP.out | exact kO (kO HP.out) | exact kO (kO (kO HP.out)) | exact kO (kO (kO (kO HP.out))) | exact kO (kO (kO (kO (kO HP.out)))) | exact kO (kO (kO (kO (kO (kO HP.out)))))) (HS.out.keep (by repeat (first | exact grown_refl _ _ | refine grown_alloc ?_ _ | refine grown_drewN ?_ _ | refine grown_drew ?_))) HB.out Hbx.out Hbl.out Hbf.out).mono ?_
 rintro e w1 ⟨rfl,post⟩
 have hg1:=box_grown post.1 (show (World.heap _)[w.heap.size]?=some (.cells #[.int .i64 0,.int .i64 0,.int .i64 0,.int .i64 0] 109 (0,0)) from heap_new (by simp)) (by omega)
 obtain ⟨⟨d0,d1,d2,d3⟩,⟨g0,g1,g2,g3⟩,hz⟩:=box4 hg1
 have POST:=kH post
 clear post
 generalize (putS (base+1) v,K.put (.lays1 k d f))=r at *
 obtain ⟨⟨r0,r1,r2,r3⟩,kk⟩:=r
 simp only [WantS.val]
 go_wp2
 exact bodyPost_ret (results_cell_row rfl _ _ _ _ _ _ _ rfl (heap_set (heap_set (heap_set (heap_set hg1)))) Tryz.underlying109 rfl infoWant) rfl (close_step (g:=w.heap.size) (M:=[]) (by repeat (first | exact grown_refl _ _ | refine grown_alloc ?_ _ | refine grown_drewN ?_ _ | refine grown_drew ?_)) hlt (by omega) (by simp) (fun x hx=>nomatch hx) ⟨rfl,POST.out⟩ rfl)
theorem next_addU (w:World) (p:Nat) (base most:Int) (B:List Ent) (v:Int) (k:Int) (d:WayD) (bx bl:Nat) (h:Lies w p base most (.func (.func 202) #[] #[.pointer (some ⟨bx,0,none⟩),.pointer (some ⟨bl,0,none⟩)])) (hs:Store w p B) (hb:inB base most) (hbx:XB B p bx) (hbl:LaysB B p k d bl) :
   Calls Tryz.prog 288 #[.pointer (some ⟨p,0,none⟩),.int .i64 v] w (StepPost p base most B (goK base most (.addU k d) v) w):=by
 have Hbx:=kH hbx
 have Hbl:=kH hbl
 have HS:=kH hs
 have HP:=kH h
 have HB:=kH hb
 obtain ⟨⟨c0,c1,c2⟩,f2,hlt⟩:=lies3 h
 clear h hs hb hbx hbl
 have hgo:goK base most (.addU k d) v=(goK base most (.addU k d) v):=rfl
 rw [hgo]
 clear hgo
 go_enter Tryz.func288,Tryz.ntmps288
 go_wp2_with fail
 refine (addU_step _ p base most (.func (.func 202) #[] #[.pointer (some ⟨bx,0,none⟩),.pointer (some ⟨bl,0,none⟩)]) B k v d bx bl (by first | exact HP.out | exact kO HP.out | exact kO (kO HP.out) | exact kO (kO (kO HP.out)) | exact kO (kO (kO (kO HP.out))) | exact kO (kO (kO (kO (kO HP.out)))) | exact kO (kO (kO (kO (kO (kO HP.out)))))) (HS.out.keep (by repeat (first | exact grown_refl _ _ | refine grown_alloc ?_ _ | refine grown_drewN ?_ _ | refine grown_drew ?_))) HB.out Hbx.out Hbl.out).mono ?_
 rintro e w1 ⟨rfl,post⟩
 have hg1:=box_grown post.1 (show (World.heap _)[w.heap.size]?=some (.cells #[.int .i64 0,.int .i64 0,.int .i64 0,.int .i64 0] 109 (0,0)) from heap_new (by simp)) (by omega)
 obtain ⟨⟨d0,d1,d2,d3⟩,⟨g0,g1,g2,g3⟩,hz⟩:=box4 hg1
 have POST:=kH post
 clear post
 generalize (goK base most (.addU k d) v)=r at *
 obtain ⟨⟨r0,r1,r2,r3⟩,kk⟩:=r
 simp only [WantS.val]
 go_wp2
 exact bodyPost_ret (results_cell_row rfl _ _ _ _ _ _ _ rfl (heap_set (heap_set (heap_set (heap_set hg1)))) Tryz.underlying109 rfl infoWant) rfl (close_step (g:=w.heap.size) (M:=[]) (by repeat (first | exact grown_refl _ _ | refine grown_alloc ?_ _ | refine grown_drewN ?_ _ | refine grown_drew ?_)) hlt (by omega) (by simp) (fun x hx=>nomatch hx) ⟨rfl,POST.out⟩ rfl)
theorem next_delQ (w:World) (p:Nat) (base most:Int) (B:List Ent) (v:Int) (d:WayD) (bx bw:Nat) (h:Lies w p base most (.func (.func 204) #[] #[.pointer (some ⟨bx,0,none⟩),.pointer (some ⟨bw,0,none⟩)])) (hs:Store w p B) (hb:inB base most) (hbx:XB B p bx) (hbw:WB B d bw) (hc:cellOk d.cell) :
   Calls Tryz.prog 288 #[.pointer (some ⟨p,0,none⟩),.int .i64 v] w (StepPost p base most B (goK base most (.delQ d) v) w):=by
 have Hbx:=kH hbx
 have Hbw:=kH hbw
 have HS:=kH hs
 have HP:=kH h
 have HB:=kH hb
 obtain ⟨⟨c0,c1,c2⟩,f2,hlt⟩:=lies3 h
 clear h hs hb hbx hbw
 have hgo:goK base most (.delQ d) v=(putS (base+d.cell) v,K.put (.delW d)):=rfl
 rw [hgo]
 clear hgo
 go_enter Tryz.func288,Tryz.ntmps288
 go_wp2_with fail
 refine (delQ_step _ p base most (.func (.func 204) #[] #[.pointer (some ⟨bx,0,none⟩),.pointer (some ⟨bw,0,none⟩)]) B v d bx bw (by first | exact HP.out | exact kO HP.out | exact kO (kO HP.out) | exact kO (kO (kO HP.out)) | exact kO (kO (kO (kO HP.out))) | exact kO (kO (kO (kO (kO HP.out)))) | exact kO (kO (kO (kO (kO (kO HP.out)))))) (HS.out.keep (by repeat (first | exact grown_refl _ _ | refine grown_alloc ?_ _ | refine grown_drewN ?_ _ | refine grown_drew ?_))) HB.out Hbx.out Hbw.out hc).mono ?_
 rintro e w1 ⟨rfl,post⟩
 have hg1:=box_grown post.1 (show (World.heap _)[w.heap.size]?=some (.cells #[.int .i64 0,.int .i64 0,.int .i64 0,.int .i64 0] 109 (0,0)) from heap_new (by simp)) (by omega)
 obtain ⟨⟨d0,d1,d2,d3⟩,⟨g0,g1,g2,g3⟩,hz⟩:=box4 hg1
 have POST:=kH post
 clear post
 generalize (putS (base+d.cell) v,K.put (.delW d))=r at *
 obtain ⟨⟨r0,r1,r2,r3⟩,kk⟩:=r
 simp only [WantS.val]
 go_wp2
 exact bodyPost_ret (results_cell_row rfl _ _ _ _ _ _ _ rfl (heap_set (heap_set (heap_set (heap_set hg1)))) Tryz.underlying109 rfl infoWant) rfl (close_step (g:=w.heap.size) (M:=[]) (by repeat (first | exact grown_refl _ _ | refine grown_alloc ?_ _ | refine grown_drewN ?_ _ | refine grown_drew ?_)) hlt (by omega) (by simp) (fun x hx=>nomatch hx) ⟨rfl,POST.out⟩ rfl)
theorem next_delF (w:World) (p:Nat) (base most:Int) (B:List Ent) (v:Int) (d:WayD) (bx bw:Nat) (h:Lies w p base most (.func (.func 206) #[] #[.pointer (some ⟨bx,0,none⟩),.pointer (some ⟨bw,0,none⟩)])) (hs:Store w p B) (hb:inB base most) (hbx:XB B p bx) (hbw:WB B d bw) (hl:leadsP most d.p) :
   Calls Tryz.prog 288 #[.pointer (some ⟨p,0,none⟩),.int .i64 v] w (StepPost p base most B (goK base most (.delF d) v) w):=by
 have Hbx:=kH hbx
 have Hbw:=kH hbw
 have HS:=kH hs
 have HP:=kH h
 have HB:=kH hb
 obtain ⟨⟨c0,c1,c2⟩,f2,hlt⟩:=lies3 h
 clear h hs hb hbx hbw
 have hgo:goK base most (.delF d) v=(putS (base+linkI d.p) v,K.put (.delL d)):=rfl
 rw [hgo]
 clear hgo
 go_enter Tryz.func288,Tryz.ntmps288
 go_wp2_with fail
 refine (delF_step _ p base most (.func (.func 206) #[] #[.pointer (some ⟨bx,0,none⟩),.pointer (some ⟨bw,0,none⟩)]) B v d bx bw (by first | exact HP.out | exact kO HP.out | exact kO (kO HP.out) | exact kO (kO (kO HP.out)) | exact kO (kO (kO (kO HP.out))) | exact kO (kO (kO (kO (kO HP.out)))) | exact kO (kO (kO (kO (kO (kO HP.out)))))) (HS.out.keep (by repeat (first | exact grown_refl _ _ | refine grown_alloc ?_ _ | refine grown_drewN ?_ _ | refine grown_drew ?_))) HB.out Hbx.out Hbw.out hl).mono ?_
 rintro e w1 ⟨rfl,post⟩
 have hg1:=box_grown post.1 (show (World.heap _)[w.heap.size]?=some (.cells #[.int .i64 0,.int .i64 0,.int .i64 0,.int .i64 0] 109 (0,0)) from heap_new (by simp)) (by omega)
 obtain ⟨⟨d0,d1,d2,d3⟩,⟨g0,g1,g2,g3⟩,hz⟩:=box4 hg1
 have POST:=kH post
 clear post
 generalize (putS (base+linkI d.p) v,K.put (.delL d))=r at *
 obtain ⟨⟨r0,r1,r2,r3⟩,kk⟩:=r
 simp only [WantS.val]
 go_wp2
 exact bodyPost_ret (results_cell_row rfl _ _ _ _ _ _ _ rfl (heap_set (heap_set (heap_set (heap_set hg1)))) Tryz.underlying109 rfl infoWant) rfl (close_step (g:=w.heap.size) (M:=[]) (by repeat (first | exact grown_refl _ _ | refine grown_alloc ?_ _ | refine grown_drewN ?_ _ | refine grown_drew ?_)) hlt (by omega) (by simp) (fun x hx=>nomatch hx) ⟨rfl,POST.out⟩ rfl)
theorem next_put_lays1 (w:World) (p:Nat) (base most:Int) (B:List Ent) (v:Int) (k f:Int) (d:WayD) (s3:Nat) (bl s1 s2 bf bt:Nat) (h:Lies w p base most (.func (.func 228) #[] #[.pointer (some ⟨bt,0,none⟩)])) (hs:Store w p B) (hb:inB base most) (hbl:⟨bl,#[.func (.func 194) #[] #[.pointer (some ⟨s1,0,none⟩),.pointer (some ⟨s2,0,none⟩),.pointer (some ⟨s3,0,none⟩)]],131⟩∈B) (hs1:XB B p s1) (hs2:VB B k s2) (hbf:VB B f bf) (hbt:⟨bt,#[.func (.func 201) #[] #[.pointer (some ⟨bl,0,none⟩),.pointer (some ⟨bf,0,none⟩)]],266⟩∈B) (hs3:WB B d s3) (hl:leadsP most f) :
   Calls Tryz.prog 288 #[.pointer (some ⟨p,0,none⟩),.int .i64 v] w (StepPost p base most B (goK base most (.put (.lays1 k d f)) v) w):=by
 have Hbl:=kH hbl
 have Hs1:=kH hs1
 have Hs2:=kH hs2
 have Hbf:=kH hbf
 have Hbt:=kH hbt
 have HS:=kH hs
 have HP:=kH h
 have HB:=kH hb
 obtain ⟨⟨c0,c1,c2⟩,f2,hlt⟩:=lies3 h
 clear h hs hb hbl hs1 hs2 hbf hbt
 have hgo:goK base most (.put (.lays1 k d f)) v=(laysK base k d f):=rfl
 rw [hgo]
 clear hgo
 go_enter Tryz.func288,Tryz.ntmps288
 go_wp2_with fail
 refine (w1_lays1 _ p base most (.func (.func 228) #[] #[.pointer (some ⟨bt,0,none⟩)]) B v k f d s3 bl s1 s2 bf bt (by first | exact HP.out | exact kO HP.out | exact kO (kO HP.out) | exact kO (kO (kO HP.out)) | exact kO (kO (kO (kO HP.out))) | exact kO (kO (kO (kO (kO HP.out)))) | exact kO (kO (kO (kO (kO (kO HP.out)))))) (HS.out.keep (by repeat (first | exact grown_refl _ _ | refine grown_alloc ?_ _ | refine grown_drewN ?_ _ | refine grown_drew ?_))) HB.out Hbl.out Hs1.out Hs2.out Hbf.out Hbt.out hs3 hl).mono ?_
 rintro e w1 ⟨rfl,post⟩
 have hg1:=box_grown post.1 (show (World.heap _)[w.heap.size]?=some (.cells #[.int .i64 0,.int .i64 0,.int .i64 0,.int .i64 0] 109 (0,0)) from heap_new (by simp)) (by omega)
 obtain ⟨⟨d0,d1,d2,d3⟩,⟨g0,g1,g2,g3⟩,hz⟩:=box4 hg1
 have POST:=kH post
 clear post
 generalize (laysK base k d f)=r at *
 obtain ⟨⟨r0,r1,r2,r3⟩,kk⟩:=r
 simp only [WantS.val]
 go_wp2
 exact bodyPost_ret (results_cell_row rfl _ _ _ _ _ _ _ rfl (heap_set (heap_set (heap_set (heap_set hg1)))) Tryz.underlying109 rfl infoWant) rfl (close_step (g:=w.heap.size) (M:=[]) (by repeat (first | exact grown_refl _ _ | refine grown_alloc ?_ _ | refine grown_drewN ?_ _ | refine grown_drew ?_)) hlt (by omega) (by simp) (fun x hx=>nomatch hx) ⟨rfl,POST.out⟩ rfl)
theorem next_put_lays2 (w:World) (p:Nat) (base most:Int) (B:List Ent) (v:Int) (k f:Int) (d:WayD) (s3:Nat) (bl s1 s2 bf bt:Nat) (h:Lies w p base most (.func (.func 228) #[] #[.pointer (some ⟨bt,0,none⟩)])) (hs:Store w p B) (hb:inB base most) (hbl:⟨bl,#[.func (.func 194) #[] #[.pointer (some ⟨s1,0,none⟩),.pointer (some ⟨s2,0,none⟩),.pointer (some ⟨s3,0,none⟩)]],131⟩∈B) (hs1:XB B p s1) (hs2:VB B k s2) (hbf:VB B f bf) (hbt:⟨bt,#[.func (.func 203) #[] #[.pointer (some ⟨bl,0,none⟩),.pointer (some ⟨bf,0,none⟩)]],266⟩∈B) (hs3:WB B d s3) (hf:0≤f∧f < most) :
   Calls Tryz.prog 288 #[.pointer (some ⟨p,0,none⟩),.int .i64 v] w (StepPost p base most B (goK base most (.put (.lays2 k d f)) v) w):=by
 have Hbl:=kH hbl
 have Hs1:=kH hs1
 have Hs2:=kH hs2
 have Hbf:=kH hbf
 have Hbt:=kH hbt
 have HS:=kH hs
 have HP:=kH h
 have HB:=kH hb
 obtain ⟨⟨c0,c1,c2⟩,f2,hlt⟩:=lies3 h
 clear h hs hb hbl hs1 hs2 hbf hbt
 have hgo:goK base most (.put (.lays2 k d f)) v=(laysK base k d (f+1)):=rfl
 rw [hgo]
 clear hgo
 go_enter Tryz.func288,Tryz.ntmps288
 go_wp2_with fail
 refine (w1_lays2 _ p base most (.func (.func 228) #[] #[.pointer (some ⟨bt,0,none⟩)]) B v k f d s3 bl s1 s2 bf bt (by first | exact HP.out | exact kO HP.out | exact kO (kO HP.out) | exact kO (kO (kO HP.out)) | exact kO (kO (kO (kO HP.out))) | exact kO (kO (kO (kO (kO HP.out)))) | exact kO (kO (kO (kO (kO (kO HP.out)))))) (HS.out.keep (by repeat (first | exact grown_refl _ _ | refine grown_alloc ?_ _ | refine grown_drewN ?_ _ | refine grown_drew ?_))) HB.out Hbl.out Hs1.out Hs2.out Hbf.out Hbt.out hs3 hf).mono ?_
 rintro e w1 ⟨rfl,post⟩
 have hg1:=box_grown post.1 (show (World.heap _)[w.heap.size]?=some (.cells #[.int .i64 0,.int .i64 0,.int .i64 0,.int .i64 0] 109 (0,0)) from heap_new (by simp)) (by omega)
 obtain ⟨⟨d0,d1,d2,d3⟩,⟨g0,g1,g2,g3⟩,hz⟩:=box4 hg1
 have POST:=kH post
 clear post
 generalize (laysK base k d (f+1))=r at *
 obtain ⟨⟨r0,r1,r2,r3⟩,kk⟩:=r
 simp only [WantS.val]
 go_wp2
 exact bodyPost_ret (results_cell_row rfl _ _ _ _ _ _ _ rfl (heap_set (heap_set (heap_set (heap_set hg1)))) Tryz.underlying109 rfl infoWant) rfl (close_step (g:=w.heap.size) (M:=[]) (by repeat (first | exact grown_refl _ _ | refine grown_alloc ?_ _ | refine grown_drewN ?_ _ | refine grown_drew ?_)) hlt (by omega) (by simp) (fun x hx=>nomatch hx) ⟨rfl,POST.out⟩ rfl)
theorem next_put_key (w:World) (p:Nat) (base most:Int) (B:List Ent) (v:Int) (k node:Int) (d:WayD) (bx bn bw bt:Nat) (h:Lies w p base most (.func (.func 228) #[] #[.pointer (some ⟨bt,0,none⟩)])) (hs:Store w p B) (hb:inB base most) (hbx:XB B p bx) (hbn:VB B node bn) (hbw:WB B d bw) (hbt:⟨bt,#[.func (.func 196) #[] #[.pointer (some ⟨bx,0,none⟩),.pointer (some ⟨bn,0,none⟩),.pointer (some ⟨bw,0,none⟩)]],266⟩∈B) (hl:leadsP most node) :
   Calls Tryz.prog 288 #[.pointer (some ⟨p,0,none⟩),.int .i64 v] w (StepPost p base most B (goK base most (.put (.key k d node)) v) w):=by
 have Hbx:=kH hbx
 have Hbn:=kH hbn
 have Hbw:=kH hbw
 have Hbt:=kH hbt
 have HS:=kH hs
 have HP:=kH h
 have HB:=kH hb
 obtain ⟨⟨c0,c1,c2⟩,f2,hlt⟩:=lies3 h
 clear h hs hb hbx hbn hbw hbt
 have hgo:goK base most (.put (.key k d node)) v=(putS (base+linkI node) d.p,K.put (.link k d node)):=rfl
 rw [hgo]
 clear hgo
 go_enter Tryz.func288,Tryz.ntmps288
 go_wp2_with fail
 refine (w1_key _ p base most (.func (.func 228) #[] #[.pointer (some ⟨bt,0,none⟩)]) B v k node d bx bn bw bt (by first | exact HP.out | exact kO HP.out | exact kO (kO HP.out) | exact kO (kO (kO HP.out)) | exact kO (kO (kO (kO HP.out))) | exact kO (kO (kO (kO (kO HP.out)))) | exact kO (kO (kO (kO (kO (kO HP.out)))))) (HS.out.keep (by repeat (first | exact grown_refl _ _ | refine grown_alloc ?_ _ | refine grown_drewN ?_ _ | refine grown_drew ?_))) HB.out Hbx.out Hbn.out Hbw.out Hbt.out hl).mono ?_
 rintro e w1 ⟨rfl,post⟩
 have hg1:=box_grown post.1 (show (World.heap _)[w.heap.size]?=some (.cells #[.int .i64 0,.int .i64 0,.int .i64 0,.int .i64 0] 109 (0,0)) from heap_new (by simp)) (by omega)
 obtain ⟨⟨d0,d1,d2,d3⟩,⟨g0,g1,g2,g3⟩,hz⟩:=box4 hg1
 have POST:=kH post
 clear post
 generalize (putS (base+linkI node) d.p,K.put (.link k d node))=r at *
 obtain ⟨⟨r0,r1,r2,r3⟩,kk⟩:=r
 simp only [WantS.val]
 go_wp2
 exact bodyPost_ret (results_cell_row rfl _ _ _ _ _ _ _ rfl (heap_set (heap_set (heap_set (heap_set hg1)))) Tryz.underlying109 rfl infoWant) rfl (close_step (g:=w.heap.size) (M:=[]) (by repeat (first | exact grown_refl _ _ | refine grown_alloc ?_ _ | refine grown_drewN ?_ _ | refine grown_drew ?_)) hlt (by omega) (by simp) (fun x hx=>nomatch hx) ⟨rfl,POST.out⟩ rfl)
theorem next_put_link (w:World) (p:Nat) (base most:Int) (B:List Ent) (v:Int) (k node:Int) (d:WayD) (bx bw bn bt:Nat) (h:Lies w p base most (.func (.func 228) #[] #[.pointer (some ⟨bt,0,none⟩)])) (hs:Store w p B) (hb:inB base most) (hbx:XB B p bx) (hbw:WB B d bw) (hbn:VB B node bn) (hbt:⟨bt,#[.func (.func 197) #[] #[.pointer (some ⟨bx,0,none⟩),.pointer (some ⟨bw,0,none⟩),.pointer (some ⟨bn,0,none⟩)]],266⟩∈B) (hc:cellOk d.cell) :
   Calls Tryz.prog 288 #[.pointer (some ⟨p,0,none⟩),.int .i64 v] w (StepPost p base most B (goK base most (.put (.link k d node)) v) w):=by
 have Hbx:=kH hbx
 have Hbw:=kH hbw
 have Hbn:=kH hbn
 have Hbt:=kH hbt
 have HS:=kH hs
 have HP:=kH h
 have HB:=kH hb
 obtain ⟨⟨c0,c1,c2⟩,f2,hlt⟩:=lies3 h
 clear h hs hb hbx hbw hbn hbt
 have hgo:goK base most (.put (.link k d node)) v=(putS (base+d.cell) node,K.put .fin):=rfl
 rw [hgo]
 clear hgo
 go_enter Tryz.func288,Tryz.ntmps288
 go_wp2_with fail
 refine (w1_link _ p base most (.func (.func 228) #[] #[.pointer (some ⟨bt,0,none⟩)]) B v node d bx bw bn bt (by first | exact HP.out | exact kO HP.out | exact kO (kO HP.out) | exact kO (kO (kO HP.out)) | exact kO (kO (kO (kO HP.out))) | exact kO (kO (kO (kO (kO HP.out)))) | exact kO (kO (kO (kO (kO (kO HP.out)))))) (HS.out.keep (by repeat (first | exact grown_refl _ _ | refine grown_alloc ?_ _ | refine grown_drewN ?_ _ | refine grown_drew ?_))) HB.out Hbx.out Hbw.out Hbn.out Hbt.out hc).mono ?_
 rintro e w1 ⟨rfl,post⟩
 have hg1:=box_grown post.1 (show (World.heap _)[w.heap.size]?=some (.cells #[.int .i64 0,.int .i64 0,.int .i64 0,.int .i64 0] 109 (0,0)) from heap_new (by simp)) (by omega)
 obtain ⟨⟨d0,d1,d2,d3⟩,⟨g0,g1,g2,g3⟩,hz⟩:=box4 hg1
 have POST:=kH post
 clear post
 generalize (putS (base+d.cell) node,K.put .fin)=r at *
 obtain ⟨⟨r0,r1,r2,r3⟩,kk⟩:=r
 simp only [WantS.val]
 go_wp2
 exact bodyPost_ret (results_cell_row rfl _ _ _ _ _ _ _ rfl (heap_set (heap_set (heap_set (heap_set hg1)))) Tryz.underlying109 rfl infoWant) rfl (close_step (g:=w.heap.size) (M:=[]) (by repeat (first | exact grown_refl _ _ | refine grown_alloc ?_ _ | refine grown_drewN ?_ _ | refine grown_drew ?_)) hlt (by omega) (by simp) (fun x hx=>nomatch hx) ⟨rfl,POST.out⟩ rfl)
theorem next_put_fin (w:World) (p:Nat) (base most:Int) (B:List Ent) (v:Int)  (bx bt:Nat) (h:Lies w p base most (.func (.func 228) #[] #[.pointer (some ⟨bt,0,none⟩)])) (hs:Store w p B) (hb:inB base most) (hbx:XB B p bx) (hbt:⟨bt,#[.func (.func 198) #[] #[.pointer (some ⟨bx,0,none⟩)]],266⟩∈B) :
   Calls Tryz.prog 288 #[.pointer (some ⟨p,0,none⟩),.int .i64 v] w (StepPost p base most B (goK base most (.put .fin) v) w):=by
 have Hbx:=kH hbx
 have Hbt:=kH hbt
 have HS:=kH hs
 have HP:=kH h
 have HB:=kH hb
 obtain ⟨⟨c0,c1,c2⟩,f2,hlt⟩:=lies3 h
 clear h hs hb hbx hbt
 have hgo:goK base most (.put .fin) v=(endK 0 0):=rfl
 rw [hgo]
 clear hgo
 go_enter Tryz.func288,Tryz.ntmps288
 go_wp2_with fail
 refine (w1_fin _ p base most (.func (.func 228) #[] #[.pointer (some ⟨bt,0,none⟩)]) B v  bx bt (by first | exact HP.out | exact kO HP.out | exact kO (kO HP.out) | exact kO (kO (kO HP.out)) | exact kO (kO (kO (kO HP.out))) | exact kO (kO (kO (kO (kO HP.out)))) | exact kO (kO (kO (kO (kO (kO HP.out)))))) (HS.out.keep (by repeat (first | exact grown_refl _ _ | refine grown_alloc ?_ _ | refine grown_drewN ?_ _ | refine grown_drew ?_))) HB.out Hbx.out Hbt.out ).mono ?_
 rintro e w1 ⟨rfl,post⟩
 have hg1:=box_grown post.1 (show (World.heap _)[w.heap.size]?=some (.cells #[.int .i64 0,.int .i64 0,.int .i64 0,.int .i64 0] 109 (0,0)) from heap_new (by simp)) (by omega)
 obtain ⟨⟨d0,d1,d2,d3⟩,⟨g0,g1,g2,g3⟩,hz⟩:=box4 hg1
 have POST:=kH post
 clear post
 generalize (endK 0 0)=r at *
 obtain ⟨⟨r0,r1,r2,r3⟩,kk⟩:=r
 simp only [WantS.val]
 go_wp2
 exact bodyPost_ret (results_cell_row rfl _ _ _ _ _ _ _ rfl (heap_set (heap_set (heap_set (heap_set hg1)))) Tryz.underlying109 rfl infoWant) rfl (close_step (g:=w.heap.size) (M:=[]) (by repeat (first | exact grown_refl _ _ | refine grown_alloc ?_ _ | refine grown_drewN ?_ _ | refine grown_drew ?_)) hlt (by omega) (by simp) (fun x hx=>nomatch hx) ⟨rfl,POST.out⟩ rfl)
theorem next_put_delW (w:World) (p:Nat) (base most:Int) (B:List Ent) (v:Int) (d:WayD) (bx bw bt:Nat) (h:Lies w p base most (.func (.func 228) #[] #[.pointer (some ⟨bt,0,none⟩)])) (hs:Store w p B) (hb:inB base most) (hbx:XB B p bx) (hbw:WB B d bw) (hbt:⟨bt,#[.func (.func 205) #[] #[.pointer (some ⟨bx,0,none⟩),.pointer (some ⟨bw,0,none⟩)]],266⟩∈B) :
   Calls Tryz.prog 288 #[.pointer (some ⟨p,0,none⟩),.int .i64 v] w (StepPost p base most B (goK base most (.put (.delW d)) v) w):=by
 have Hbx:=kH hbx
 have Hbw:=kH hbw
 have Hbt:=kH hbt
 have HS:=kH hs
 have HP:=kH h
 have HB:=kH hb
 obtain ⟨⟨c0,c1,c2⟩,f2,hlt⟩:=lies3 h
 clear h hs hb hbx hbw hbt
 have hgo:goK base most (.put (.delW d)) v=(readS (base+1),K.delF d):=rfl
 rw [hgo]
 clear hgo
 go_enter Tryz.func288,Tryz.ntmps288
 go_wp2_with fail
 refine (w1_delW _ p base most (.func (.func 228) #[] #[.pointer (some ⟨bt,0,none⟩)]) B v d bx bw bt (by first | exact HP.out | exact kO HP.out | exact kO (kO HP.out) | exact kO (kO (kO HP.out)) | exact kO (kO (kO (kO HP.out))) | exact kO (kO (kO (kO (kO HP.out)))) | exact kO (kO (kO (kO (kO (kO HP.out)))))) (HS.out.keep (by repeat (first | exact grown_refl _ _ | refine grown_alloc ?_ _ | refine grown_drewN ?_ _ | refine grown_drew ?_))) HB.out Hbx.out Hbw.out Hbt.out ).mono ?_
 rintro e w1 ⟨rfl,post⟩
 have hg1:=box_grown post.1 (show (World.heap _)[w.heap.size]?=some (.cells #[.int .i64 0,.int .i64 0,.int .i64 0,.int .i64 0] 109 (0,0)) from heap_new (by simp)) (by omega)
 obtain ⟨⟨d0,d1,d2,d3⟩,⟨g0,g1,g2,g3⟩,hz⟩:=box4 hg1
 have POST:=kH post
 clear post
 generalize (readS (base+1),K.delF d)=r at *
 obtain ⟨⟨r0,r1,r2,r3⟩,kk⟩:=r
 simp only [WantS.val]
 go_wp2
 exact bodyPost_ret (results_cell_row rfl _ _ _ _ _ _ _ rfl (heap_set (heap_set (heap_set (heap_set hg1)))) Tryz.underlying109 rfl infoWant) rfl (close_step (g:=w.heap.size) (M:=[]) (by repeat (first | exact grown_refl _ _ | refine grown_alloc ?_ _ | refine grown_drewN ?_ _ | refine grown_drew ?_)) hlt (by omega) (by simp) (fun x hx=>nomatch hx) ⟨rfl,POST.out⟩ rfl)
theorem next_put_delL (w:World) (p:Nat) (base most:Int) (B:List Ent) (v:Int) (d:WayD) (bx bw bt:Nat) (h:Lies w p base most (.func (.func 228) #[] #[.pointer (some ⟨bt,0,none⟩)])) (hs:Store w p B) (hb:inB base most) (hbx:XB B p bx) (hbw:WB B d bw) (hbt:⟨bt,#[.func (.func 207) #[] #[.pointer (some ⟨bx,0,none⟩),.pointer (some ⟨bw,0,none⟩)]],266⟩∈B) :
   Calls Tryz.prog 288 #[.pointer (some ⟨p,0,none⟩),.int .i64 v] w (StepPost p base most B (goK base most (.put (.delL d)) v) w):=by
 have Hbx:=kH hbx
 have Hbw:=kH hbw
 have Hbt:=kH hbt
 have HS:=kH hs
 have HP:=kH h
 have HB:=kH hb
 obtain ⟨⟨c0,c1,c2⟩,f2,hlt⟩:=lies3 h
 clear h hs hb hbx hbw hbt
 have hgo:goK base most (.put (.delL d)) v=(putS (base+1) d.p,K.put .delFin):=rfl
 rw [hgo]
 clear hgo
 go_enter Tryz.func288,Tryz.ntmps288
 go_wp2_with fail
 refine (w1_delL _ p base most (.func (.func 228) #[] #[.pointer (some ⟨bt,0,none⟩)]) B v d bx bw bt (by first | exact HP.out | exact kO HP.out | exact kO (kO HP.out) | exact kO (kO (kO HP.out)) | exact kO (kO (kO (kO HP.out))) | exact kO (kO (kO (kO (kO HP.out)))) | exact kO (kO (kO (kO (kO (kO HP.out)))))) (HS.out.keep (by repeat (first | exact grown_refl _ _ | refine grown_alloc ?_ _ | refine grown_drewN ?_ _ | refine grown_drew ?_))) HB.out Hbx.out Hbw.out Hbt.out ).mono ?_
 rintro e w1 ⟨rfl,post⟩
 have hg1:=box_grown post.1 (show (World.heap _)[w.heap.size]?=some (.cells #[.int .i64 0,.int .i64 0,.int .i64 0,.int .i64 0] 109 (0,0)) from heap_new (by simp)) (by omega)
 obtain ⟨⟨d0,d1,d2,d3⟩,⟨g0,g1,g2,g3⟩,hz⟩:=box4 hg1
 have POST:=kH post
 clear post
 generalize (putS (base+1) d.p,K.put .delFin)=r at *
 obtain ⟨⟨r0,r1,r2,r3⟩,kk⟩:=r
 simp only [WantS.val]
 go_wp2
 exact bodyPost_ret (results_cell_row rfl _ _ _ _ _ _ _ rfl (heap_set (heap_set (heap_set (heap_set hg1)))) Tryz.underlying109 rfl infoWant) rfl (close_step (g:=w.heap.size) (M:=[]) (by repeat (first | exact grown_refl _ _ | refine grown_alloc ?_ _ | refine grown_drewN ?_ _ | refine grown_drew ?_)) hlt (by omega) (by simp) (fun x hx=>nomatch hx) ⟨rfl,POST.out⟩ rfl)
theorem next_put_delFin (w:World) (p:Nat) (base most:Int) (B:List Ent) (v:Int)  (bx bt:Nat) (h:Lies w p base most (.func (.func 228) #[] #[.pointer (some ⟨bt,0,none⟩)])) (hs:Store w p B) (hb:inB base most) (hbx:XB B p bx) (hbt:⟨bt,#[.func (.func 208) #[] #[.pointer (some ⟨bx,0,none⟩)]],266⟩∈B) :
   Calls Tryz.prog 288 #[.pointer (some ⟨p,0,none⟩),.int .i64 v] w (StepPost p base most B (goK base most (.put .delFin) v) w):=by
 have Hbx:=kH hbx
 have Hbt:=kH hbt
 have HS:=kH hs
 have HP:=kH h
 have HB:=kH hb
 obtain ⟨⟨c0,c1,c2⟩,f2,hlt⟩:=lies3 h
 clear h hs hb hbx hbt
 have hgo:goK base most (.put .delFin) v=(endK 0 0):=rfl
 rw [hgo]
 clear hgo
 go_enter Tryz.func288,Tryz.ntmps288
 go_wp2_with fail
 refine (w1_delFin _ p base most (.func (.func 228) #[] #[.pointer (some ⟨bt,0,none⟩)]) B v  bx bt (by first | exact HP.out | exact kO HP.out | exact kO (kO HP.out) | exact kO (kO (kO HP.out)) | exact kO (kO (kO (kO HP.out))) | exact kO (kO (kO (kO (kO HP.out)))) | exact kO (kO (kO (kO (kO (kO HP.out)))))) (HS.out.keep (by repeat (first | exact grown_refl _ _ | refine grown_alloc ?_ _ | refine grown_drewN ?_ _ | refine grown_drew ?_))) HB.out Hbx.out Hbt.out ).mono ?_
 rintro e w1 ⟨rfl,post⟩
 have hg1:=box_grown post.1 (show (World.heap _)[w.heap.size]?=some (.cells #[.int .i64 0,.int .i64 0,.int .i64 0,.int .i64 0] 109 (0,0)) from heap_new (by simp)) (by omega)
 obtain ⟨⟨d0,d1,d2,d3⟩,⟨g0,g1,g2,g3⟩,hz⟩:=box4 hg1
 have POST:=kH post
 clear post
 generalize (endK 0 0)=r at *
 obtain ⟨⟨r0,r1,r2,r3⟩,kk⟩:=r
 simp only [WantS.val]
 go_wp2
 exact bodyPost_ret (results_cell_row rfl _ _ _ _ _ _ _ rfl (heap_set (heap_set (heap_set (heap_set hg1)))) Tryz.underlying109 rfl infoWant) rfl (close_step (g:=w.heap.size) (M:=[]) (by repeat (first | exact grown_refl _ _ | refine grown_alloc ?_ _ | refine grown_drewN ?_ _ | refine grown_drew ?_)) hlt (by omega) (by simp) (fun x hx=>nomatch hx) ⟨rfl,POST.out⟩ rfl)
theorem next_done (w:World) (p:Nat) (base most:Int) (B:List Ent) (v:Int) (x:WantS) (bw:Nat) (h:Lies w p base most (.func (.func 209) #[] #[.pointer (some ⟨bw,0,none⟩)])) (hs:Store w p B) (hb:inB base most) (hw:⟨bw,#[.int .i64 x.kind,.int .i64 x.cell,.int .i64 x.value,.int .i64 x.code],109⟩∈B) :
   Calls Tryz.prog 288 #[.pointer (some ⟨p,0,none⟩),.int .i64 v] w (StepPost p base most B (goK base most (.done x) v) w):=by
 have HS:=kH hs
 have HP:=kH h
 have HB:=kH hb
 obtain ⟨⟨c0,c1,c2⟩,f2,hlt⟩:=lies3 h
 clear h hs hb
 have hgo:goK base most (.done x) v=(x,K.done x):=rfl
 rw [hgo]
 clear hgo
 go_enter Tryz.func288,Tryz.ntmps288
 go_wp2_with fail
 refine (done1_step _ p base most _ B v x bw (by first | exact HP.out | exact kO HP.out | exact kO (kO HP.out) | exact kO (kO (kO HP.out)) | exact kO (kO (kO (kO HP.out))) | exact kO (kO (kO (kO (kO HP.out)))) | exact kO (kO (kO (kO (kO (kO HP.out)))))) (HS.out.keep (by repeat (first | exact grown_refl _ _ | refine grown_alloc ?_ _ | refine grown_drewN ?_ _ | refine grown_drew ?_))) hw ⟨bw,hw,rfl⟩).mono ?_
 rintro e w1 ⟨rfl,post⟩
 have hg1:=box_grown post.1 (show (World.heap _)[w.heap.size]?=some (.cells #[.int .i64 0,.int .i64 0,.int .i64 0,.int .i64 0] 109 (0,0)) from heap_new (by simp)) (by omega)
 obtain ⟨⟨d0,d1,d2,d3⟩,⟨g0,g1,g2,g3⟩,hz⟩:=box4 hg1
 have POST:=kH post
 clear post
 generalize (x,K.done x)=r at *
 obtain ⟨⟨r0,r1,r2,r3⟩,kk⟩:=r
 simp only [WantS.val]
 go_wp2
 exact bodyPost_ret (results_cell_row rfl _ _ _ _ _ _ _ rfl (heap_set (heap_set (heap_set (heap_set hg1)))) Tryz.underlying109 rfl infoWant) rfl (close_step (g:=w.heap.size) (M:=[]) (by repeat (first | exact grown_refl _ _ | refine grown_alloc ?_ _ | refine grown_drewN ?_ _ | refine grown_drew ?_)) hlt (by omega) (by simp) (fun x hx=>nomatch hx) ⟨rfl,POST.out⟩ rfl)
end Chn
end Go.Proofs.YtgfogfciobmmpaaGreatDoor
