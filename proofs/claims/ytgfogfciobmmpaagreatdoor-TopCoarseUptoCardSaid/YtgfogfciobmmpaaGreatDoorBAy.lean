/- A part of the proof of a law of carouseltop: ChnMachN18 ChnNew18 Cms3 Cms4 Wnt Dov Popl. -/
import Derived.Test.YtgfogfciobmmpaaGreatDoorBAo
import Derived.Test.YtgfogfciobmmpaaGreatDoorBAw
import Derived.Test.YtgfogfciobmmpaaGreatDoorBAx
import Derived.Deep.RegionLaw
set_option linter.unusedSimpArgs false
set_option linter.unusedVariables false
set_option maxRecDepth 100000
set_option maxHeartbeats 8000000
namespace Go.Proofs.YtgfogfciobmmpaaGreatDoor
open Go.RowKit
namespace Chn
open Go.RowKit
structure MS where
 base:Int
 most:Int
 k:K
def Rep(w:World)(p:Nat)(m:MS)(F:List Nat):Prop :=
 inB m.base m.most/\OkK m.most m.k/\∃ B nx,F=p::B.map dP.b/\ci w p m.base m.most nx/\bv w p B/\FV B p m.k nx
def outM(m:MS)(v:Int):ax:=(goK m.base m.most m.k v).1
def stepM(m:MS)(v:Int):MS:=⟨m.base,m.most,(goK m.base m.most m.k v).2⟩
theorem zz{base most call k:Int}{d:WayD}(h:OkD most d):OkK most (thenK base call k d).2:=by
 obtain⟨c,q,st,ky,a⟩:=d
 unfold thenK
 split
 ·cases a
  ·exact h
  ·exact trivial
 ·split
  ·cases a
   ·exact trivial
   ·exact⟨h,h.2 rfl⟩
  ·split
   ·cases a<;>exact trivial
   ·cases a
    ·cases st<;>exact trivial
    ·exact trivial
theorem linkOk{most p:Int}(hm:most<=16)(h:bg most p):eB (linkI p):=CO h hm
theorem ok_step{base most:Int}{k:K}(hb:inB base most)(h:OkK most k)(v:Int):OkK most (goK base most k v).2:=by
 obtain⟨b0,b1,m0,m1⟩:=hb
 cases k with
 | least=>exact trivial
 | len=>exact⟨Int.le_refl _,m0⟩
 | start call k=>exact⟨by unfold eB;omega,Int.le_refl _,m0⟩
 | keyOf=>simp only[goK];split<;>exact trivial
 | keyOf1=>exact trivial
 | counts n =>
  simp only[goK]
  split
  ·rename_i hc
   obtain⟨h1,h2⟩:=h
   have:=hc.2
   exact⟨by omega,by omega⟩
  ·exact trivial
 | goes call k cell n =>
  obtain⟨h1,h2,h3⟩:=h
  simp only[goK]
  split
  ·rename_i hc
   have:=hc.2
   exact⟨h1,h2,by omega,hc.1⟩
  ·exact zz ⟨h1,fun e=>by cases e⟩
 | goes1 call k cell n p =>
  obtain⟨h1,h2,h3,h4⟩:=h
  simp only[goK]
  split
  ·exact zz ⟨h1,fun _=>h4⟩
  ·exact⟨linkOk m1 h4,by omega,by omega⟩
 | addF k d =>
  simp only[goK]
  split
  ·exact⟨h,by assumption⟩
  ·exact h
 | addQ k d f=>exact h
 | addU k d =>
  simp only[goK]
  split
  ·exact trivial
  ·exact⟨h,by omega,by omega⟩
 | delQ d=>exact h
 | delF d=>exact h
 | put t =>
  cases t with
  | lays1 k d f=>exact h
  | lays2 k d u=>exact⟨h.1,by unfold bg;have:=h.2;omega⟩
  | key k d node=>exact h
  | link k d node=>exact trivial
  | fin=>exact trivial
  | delW d=>exact h
  | delL d=>exact trivial
  | delFin=>exact trivial
 | done x=>exact trivial
def dl(p:Nat)(m:MS)(F:List Nat)(v:Int)(w:World)(e:Ending)(w':World):Prop :=
 e=.returned (outM m v).val/\w.grownBy w' (some p)/\∃ F',Rep w' p (stepM m v) F'/\∀ k∈F',k∈F\/w.heap.size<=k
theorem AJ(w:World)(p:Nat)(base most:Int)(B:List dP)(k:K)(nx:Value)(v:Int)(h:ci w p base most nx)(hs:bv w p B)(hb:inB base most)(hok:OkK most k)(hF:FV B p k nx) :
  Calls Tryz.prog 288 #[.pointer (some ⟨p,0,none⟩),.int .i64 v] w (aA p base most B (goK base most k v) w):=by
 cases k with
 | least=>obtain⟨bx,h1,rfl⟩:=hF;exact xS w p base most B v bx h hs hb h1
 | len=>obtain⟨bx,h1,rfl⟩:=hF;exact CD w p base most B v bx h hs hb h1
 | start call k=>obtain⟨bx,bk,bc,h1,h2,h3,rfl⟩:=hF;exact xR w p base most B v call k bx bk bc h hs hb h1 h2 h3
 | keyOf=>cases hF;exact xT w p base most B v h hs hb
 | keyOf1=>obtain⟨bx,h1,rfl⟩:=hF;exact vo w p base most B v bx h hs hb h1
 | counts n=>obtain⟨bx,bn,h1,h2,rfl⟩:=hF;exact vp w p base most B v n bx bn h hs hb h1 h2 hok
 | goes call k cell n =>
  obtain⟨bx,bn,bt,bc,bk,tv,h1,h2,⟨t1,t2,t3,g1,g2,g3,rfl⟩,h3,h4,h5,rfl⟩:=hF
  exact AK w p base most B v call k cell n bx bn bt t1 t2 t3 bc bk h hs hb h1 h2 h3 g1 g2 g3 h4 h5 hok.2
 | goes1 call k cell n q =>
  obtain⟨bk,bt,bc,bp,bx,bn,tv,h1,⟨t1,t2,t3,g1,g2,g3,rfl⟩,h2,h3,h4,h5,h6,rfl⟩:=hF
  exact xU w p base most B v call k cell n q bk bt t1 t2 t3 bc bp bx bn h hs hb h1 h2 g1 g2 g3 h3 h4 h5 h6 ⟨hok.2.1,hok.2.2.1⟩ hok.2.2.2
 | addF k d=>obtain⟨bx,bl,h1,h2,rfl⟩:=hF;exact AQ w p base most B v k d bx bl h hs hb h1 h2
 | addQ k d f=>obtain⟨bx,bl,bf,h1,h2,h3,rfl⟩:=hF;exact AP w p base most B v k f d bx bl bf h hs hb h1 h2 h3
 | addU k d=>obtain⟨bx,bl,h1,h2,rfl⟩:=hF;exact AO w p base most B v k d bx bl h hs hb h1 h2
 | delQ d=>obtain⟨bx,bw,h1,h2,rfl⟩:=hF;exact AM w p base most B v d bx bw h hs hb h1 h2 hok.1.1
 | delF d=>obtain⟨bx,bw,h1,h2,rfl⟩:=hF;exact AN w p base most B v d bx bw h hs hb h1 h2 hok.2
 | done x=>obtain⟨bw,h1,rfl⟩:=hF;exact AL w p base most B v x bw h hs hb h1
 | put t =>
  cases t with
  | lays1 k d f =>
   obtain⟨bt,tv,⟨bl,bf,⟨lv,⟨s1,s2,s3,l1,l2,l3,rfl⟩,h1⟩,h2,rfl⟩,h3,rfl⟩:=hF
   exact qE w p base most B v k f d s3 bl s1 s2 bf bt h hs hb h1 l1 l2 h2 h3 l3 hok.2
  | lays2 k d u =>
   obtain⟨bt,tv,⟨bl,bf,⟨lv,⟨s1,s2,s3,l1,l2,l3,rfl⟩,h1⟩,h2,rfl⟩,h3,rfl⟩:=hF
   exact qD w p base most B v k u d s3 bl s1 s2 bf bt h hs hb h1 l1 l2 h2 h3 l3 hok.2
  | key k d node=>obtain⟨bt,tv,⟨bx,bn,bw,h1,h2,h3,rfl⟩,h4,rfl⟩:=hF;exact tH w p base most B v k node d bx bn bw bt h hs hb h1 h2 h3 h4 hok.2
  | link k d node=>obtain⟨bt,tv,⟨bx,bw,bn,h1,h2,h3,rfl⟩,h4,rfl⟩:=hF;exact rM w p base most B v k node d bx bw bn bt h hs hb h1 h2 h3 h4 hok.1.1
  | fin=>obtain⟨bt,tv,⟨bx,h1,rfl⟩,h4,rfl⟩:=hF;exact tI w p base most B v bx bt h hs hb h1 h4
  | delW d=>obtain⟨bt,tv,⟨bx,bw,h1,h2,rfl⟩,h4,rfl⟩:=hF;exact rN w p base most B v d bx bw bt h hs hb h1 h2 h4
  | delL d=>obtain⟨bt,tv,⟨bx,bw,h1,h2,rfl⟩,h4,rfl⟩:=hF;exact rO w p base most B v d bx bw bt h hs hb h1 h2 h4
  | delFin=>obtain⟨bt,tv,⟨bx,h1,rfl⟩,h4,rfl⟩:=hF;exact pA w p base most B v bx bt h hs hb h1 h4
theorem Next_calls(w:World)(p:Nat)(m:MS)(F:List Nat)(v:Int)(hr:Rep w p m F) :
  Calls Tryz.prog 288 #[.pointer (some ⟨p,0,none⟩),.int .i64 v] w (dl p m F v w):=by
 obtain⟨hb,hok,B,nx,rfl,hL,hS,hF⟩:=hr
 have hlt:p<w.heap.size:=(Array.getElem?_eq_some_iff.1 hL).1
 refine(AJ w p m.base m.most B m.k nx v hL hS hb hok hF).mono ?_
 rintro e w' ⟨he,hg,nx',N,hL',hN,hF'⟩
 refine⟨he,hg,p::(N++B).map dP.b,⟨hb,ok_step hb hok v,N++B,nx',rfl,hL',bv.app (fun x hx=>?_) (hS.keep hg),hF'⟩,fun k hk=>?_⟩
 ·obtain⟨h1,h2⟩:=hN x hx
  exact⟨by omega,h2⟩
 ·rcases List.mem_cons.1 hk with rfl|hk
  ·exact .inl List.mem_cons_self
  ·obtain⟨x,hx,rfl⟩:=List.mem_map.1 hk
   rcases List.mem_append.1 hx with hx|hx
   ·exact .inr (hN x hx).1
   ·exact .inl (List.mem_cons_of_mem _ (List.mem_map_of_mem hx))
theorem rep_keep{w w':World}{p:Nat}{st:MS}{F:List Nat}(h:Rep w p st F)(hk:∀ q∈F,w'.heap[q]?=w.heap[q]?):Rep w' p st F:=by
 obtain⟨h1,h2,B,nx,rfl,hL,hS,hF⟩:=h
 exact⟨h1,h2,B,nx,rfl,(hk p List.mem_cons_self).trans hL,fun e he=>⟨(hS e he).1,(hk e.b (List.mem_cons_of_mem _ (List.mem_map_of_mem he))).trans (hS e he).2⟩,hF⟩
theorem rep_mem{w:World}{p:Nat}{st:MS}{F:List Nat}(h:Rep w p st F):p∈F/\∀ q∈F,q<w.heap.size:=by
 obtain⟨h1,h2,B,nx,rfl,hL,hS,hF⟩:=h
 refine⟨List.mem_cons_self,fun q hq=>?_⟩
 rcases List.mem_cons.1 hq with rfl|hq
 ·exact(Array.getElem?_eq_some_iff.1 hL).1
 ·obtain⟨x,hx,rfl⟩:=List.mem_map.1 hq
  exact(Array.getElem?_eq_some_iff.1 (hS x hx).2).1
end Chn
namespace Chn
open Go.RowKit
def arityI(c:Int):Int:=if c=1\/c=4\/c=6\/c=8 then 1 else if c=7\/c=5 then 0 else -1
theorem yG(c:Int):c=1\/c=4\/c=6\/c=8\/c=7\/c=5\/(c≠1/\c≠4/\c≠6/\c≠8/\c≠7/\c≠5):=by omega
theorem yN{c:Int}(h:c≠1/\c≠4/\c≠6/\c≠8/\c≠7/\c≠5):arityI c = -1:=by
 unfold arityI
 rw[if_neg (by omega),if_neg (by omega)]
theorem cS(c:Int)(w:World):Calls Tryz.prog 155 #[.int .i64 c] w (dm (.int .i64 (arityI c)) w):=by
 rcases yG c with rfl|rfl|rfl|rfl|rfl|rfl|h
 case' inr.inr.inr.inr.inr.inr =>
  rw[yN h]
  obtain⟨h1,h2,h3,h4,h5,h6⟩:=h
  have k1:(c == 1)=false:=by simpa using h1
  have k2:(c == 4)=false:=by simpa using h2
  have k3:(c == 6)=false:=by simpa using h3
  have k4:(c == 8)=false:=by simpa using h4
  have k5:(c == 7)=false:=by simpa using h5
  have k6:(c == 5)=false:=by simpa using h6
  clear h1 h2 h3 h4 h5 h6
 all_goals
  go_enter Tryz.func155,Tryz.ntmps155
  go_wp2
  go_ret
  exact⟨rfl,rfl⟩
def initM(base most call:Int)(xs:List Int):MS:=⟨base,most,if call=7 then .least else if call=5 then .len else .start call (xs.getD 0 0)⟩
def jW(m:MS)(w:World)(e:Ending)(w':World):Prop :=
 ∃ p,w.heap.size<=p/\e=.returned (.tuple #[.pointer (some ⟨p,0,none⟩),.int .i64 0])/\Below w.heap.size w w'/\∃ F,Rep w' p m F/\∀ k∈F,w.heap.size<=k
theorem list_one{xs:List Int}(h:xs.length=1):∃ i,xs=[i]:=by
 match xs,h with
 | [i],_=>exact⟨i,rfl⟩
theorem kQ{call:Int}{n:Nat}(h:arityI call=(n:Int)):(call=1\/call=4\/call=6\/call=8)/\n=1\/(call=7\/call=5)/\n=0:=by
 unfold arityI at h
 split at h
 ·left;exact⟨by assumption,by omega⟩
 ·split at h
  ·right;exact⟨by assumption,by omega⟩
  ·omega
theorem New_yes(w:World)(B:Nat)(base most call:Int)(a:Value)(xs:List Int)(ha:kf w B a xs)(hB:B<=w.heap.size)(hyes:qf base most (arityI call) xs.length=true) :
  Calls Tryz.prog 105 #[.int .i64 base,.int .i64 most,.int .i64 call,a] w (jW (initM base most call xs) w):=by
 obtain⟨hxl,hxr,a,ca,rfl,hca,ha⟩:=ha
 obtain⟨⟨hm0,hm16⟩,hb0,hb1,har⟩:=of_decide_eq_true hyes
 clear hyes
 have hok:Hid (inB base most):=⟨hb0,hb1,hm0,hm16⟩
 have harr:(arityI call != (xs.length:Int))=false:=by simpa using har
 rcases kQ har with⟨hc,hl⟩|⟨hc,hl⟩
 ·obtain⟨i,rfl⟩:=list_one hl
  rcases ha with h|⟨b,off,rfl,hBb,hcell⟩
  ·cases h
  have c0:=hcell 0 (by simp)
  simp at c0
  have hbs:b<w.heap.size:=by omega
  have hbne:b≠w.heap.size:=by omega
  have c3:∀ o1 o2 o3,(((w.alloc o1).alloc o2).alloc o3).cell? ⟨b,off,none⟩=some (.int .i64 i):=fun o1 o2 o3=>by
   rw[World.cell?_alloc_lt _ _ _ (by simp;omega),World.cell?_alloc_lt _ _ _ (by simp;omega),World.cell?_alloc_lt _ _ _ hbs]
   exact c0
  have e7:(call == 7)=false:=by rcases hc with rfl|rfl|rfl|rfl<;>rfl
  have e5:(call == 5)=false:=by rcases hc with rfl|rfl|rfl|rfl<;>rfl
  have hini:initM base most call [i]=⟨base,most,.start call i⟩:=by unfold initM;rw[if_neg (by omega),if_neg (by omega)];rfl
  have HI:=kH hini
  clear hcell hl har hxr hc hini
  go_enter Tryz.func105,Tryz.ntmps105
  have harr1:arityI call=1:=by have:=of_decide_eq_true (show decide (arityI call=1)=true from by simpa using harr);exact this
  clear harr
  go_wp2_with(go_at_call 155;refine(cS _ _).mono ?_;rintro e w' ⟨rfl,rfl⟩;rw[harr1])
  go_ret2
  rw[HI.out]
  refine⟨w.heap.size+1,by omega,rfl,bA (bA (bA (ai _ _) _) _) _,_,⟨hok.out,trivial,
   [⟨w.heap.size+1+1,#[.pointer (some ⟨w.heap.size+1,0,none⟩)],191⟩,⟨w.heap.size+1+1+1,#[.int .i64 i],2⟩,⟨w.heap.size,#[.int .i64 call],3⟩],_,rfl,kO (kO (aj (by simp))),?_,
   _,_,_,List.mem_cons_self,List.mem_cons_of_mem _ List.mem_cons_self,List.mem_cons_of_mem _ (List.mem_cons_of_mem _ List.mem_cons_self),rfl⟩,?_⟩
  ·intro x hx
   simp only[List.mem_cons,List.not_mem_nil,or_false]at hx
   rcases hx with rfl|rfl|rfl
   ·exact⟨by simp,kO (aj (by simp))⟩
   ·exact⟨by simp;omega,aj (by simp)⟩
   ·exact⟨by simp,kO (kO (kO (aj rfl)))⟩
  ·intro q hq
   simp only[List.map_cons,List.map_nil,List.mem_cons,List.not_mem_nil,or_false]at hq
   omega
 ·obtain rfl:xs=[]:=List.eq_nil_of_length_eq_zero hl
  clear ha har hxr hl
  rcases hc with rfl|rfl
  all_goals
   go_enter Tryz.func105,Tryz.ntmps105
   go_wp2_with(go_at_call 155;refine(cS _ _).mono ?_;rintro e w' ⟨rfl,rfl⟩;simp only[show arityI 7=0 from rfl,show arityI 5=0 from rfl])
   go_ret2
   refine⟨w.heap.size+1,by omega,rfl,bA (bA (ai _ _) _) _,_,⟨hok.out,trivial,
    [⟨w.heap.size+1+1,#[.pointer (some ⟨w.heap.size+1,0,none⟩)],191⟩],_,rfl,kO (aj (by simp)),?_,_,List.mem_cons_self,rfl⟩,?_⟩
   ·intro x hx
    obtain rfl:=List.mem_singleton.1 hx
    exact⟨by simp,aj (by simp)⟩
   ·intro q hq
    simp only[List.map_cons,List.map_nil,List.mem_cons,List.not_mem_nil,or_false]at hq
    omega
end Chn
section
variable {w0:World}{X:List Nat}{Cs:List aw}{w:World}{x:Nat}{k:cl}{f:PF}{st cs ts:List Int}{t:bZ}{F:List Nat}{old:List bM}
theorem ah.pErr(h:ah w0 X (ag x (bm k f)::Cs) w)(v:Int):ah w0 X (ag x (bm k {f with err:=v})::Cs) (w.setCell ⟨x,24,none⟩ (.int .i64 v)):=h.pset 24 _ (by simp[aH])
theorem ko:bX [] [] []:=⟨by simp,by simp,by simp,fun _ h=>nomatch h⟩
theorem wA(hS:ah w0 X (jC x k f st cs ts old t F Cs) w)(hts:ts.length<=16)(hc:co k.c)(hn:0<t.told.length/\t.told.length<=1073741824)(ho:old.length+t.told.length<=1073741824)(hnth:0<=f.nth/\f.nth<=255)(hkt:k.tries<=255)(hov:f.over=false)(ae av:Int)(aac:Bool)(e3:(ae == 3)=false)(e4:(ae == 4)=false) :
  Calls Tryz.prog 43 #[ptr x,(⟨4,ae,av,aac⟩:aM).val] w (dC w0 X Cs x k f old t ⟨4,ae,av,aac⟩):=by
 have S1:ah w0 X (jC x k f st cs ts old t F (ag w.heap.size (aS ⟨4,ae,av,aac⟩)::ag (w.heap.size+1) aB::Cs)) ((w.alloc (aS ⟨4,ae,av,aac⟩)).alloc aB):=by
  have h:=((hS.new (aS ⟨4,ae,av,aac⟩)).new aB).sw
  rw[show(w.alloc (aS ⟨4,ae,av,aac⟩)).heap.size=w.heap.size+1 by simp]at h
  exact ah.turn [_,_] [_,_,_,_,_,_,_] h
 have HP:=kH (jV (S1.pull [_,_,_,_,_,_]))
 have HS0:=kH hS
 have HC:=kH hc
 have HNL:=kH hn
 have HOL:=kH ho
 have HNT:=kH hnth
 have hlt:=af hS.h0
 have c12:=S1.cell 12
 have c14:=hS.cell 14
 have f14:=hS.froz 14
 simp only[aH,gA,gZ,gS]at c12 c14
 have hne:x≠w.heap.size:=Nat.ne_of_lt hlt
 have hne2:x≠w.heap.size+1:=by omega
 clear hS S1 hc hn ho
 unfold aM.val aS aB ptr at *
 generalize hpb:f.published=pb at c14
 have HPB:=kH hpb
 clear hpb
 cases pb
 ·go_enter Tryz.func43,Tryz.ntmps43
  go_wp2_with fail
  refine HP.out.mono ?_
  rintro e w1 ⟨rfl,F',S2⟩
  have S3:ah w0 X (jC x k f st cs ts old t F' (ag w.heap.size (aS ⟨4,ae,av,aac⟩)::ag (w.heap.size+1) aB::Cs)) w1:=S2.push [_,_,_,_,_,_]
  have d14:=S3.cell 14
  have g14:=S3.froz 14
  have b0:=(S3.pull [_,_,_,_,_,_,_]).cell 0
  simp only[aH,gA,gZ,gS]at d14 b0
  generalize t.phase=ph at *
  have S4:=ah.pPub S3 (ph == 5)
  have HS4:=kH S4
  clear S2 S3 S4
  go_wp2_with fail
  generalize hW2:w1.setCell ⟨x,14,none⟩ (.bool (ph == 5))=W2 at *
  have HW2:=kH hW2
  clear hW2
  have e0:=HS4.out.cell 5
  have e5:=HS4.out.cell 11
  have e23:=HS4.out.cell 23
  have e24:=HS4.out.cell 24
  have g23:=HS4.out.froz 23
  have g24:=HS4.out.froz 24
  have hby:=fun j=>(HS4.out.pull [_,_,_,_,_,_,_]).cell j
  have hbf:=fun j=>(HS4.out.pull [_,_,_,_,_,_,_]).froz j
  have y0:=hby 0
  have y1:=hby 1
  have y3:=hby 3
  simp only[aH,gA,gZ,gS]at e0 e5 e23 e24 y0 y1 y3
  obtain⟨⟨a0,a1,a2,a3⟩,⟨i0,i1,i2,i3⟩⟩:=(HS4.out.pull [_,_,_,_,_,_,_,_]).ansBox
  clear hby hbf
  go_wp2_with fail
  go_quiet(fail)
  go_wp2_with fail
  go_region
  have S6:=(ah.pErr (ah.pOver (HS4.out.drewN nq) true) ae).drew
  have S7:=S6.pull [_,_,_,_,_,_,_,_]
  have HS7:=kH S7
  clear S6 S7
  go_wp2
  refine ah.ret ⟨4,ae,0,aac⟩ rfl HS7.out rfl rfl fun W' SF=>⟨by simp[bL],.over,.fail rfl,{f with published:=(ph == 5),over:=true,err:=ae},st,cs,ts,_,⟨rfl,hts⟩,(SF.pull [_,_,_,_,_,_,_]).drop⟩
 ·go_enter Tryz.func43,Tryz.ntmps43
  go_wp2_with fail
  have S4:ah w0 X (jC x k {f with published:=true} st cs ts old t F (ag w.heap.size (aS ⟨4,ae,av,aac⟩)::ag (w.heap.size+1) aB::Cs)) (((w.setCell ⟨x,14,none⟩ (.bool true)).alloc (aS ⟨4,ae,av,aac⟩)).alloc aB):=by
   have h:=(((ah.pPub HS0.out true).new (aS ⟨4,ae,av,aac⟩)).new aB).sw
   rw[show((w.setCell ⟨x,14,none⟩ (.bool true)).alloc (aS ⟨4,ae,av,aac⟩)).heap.size=w.heap.size+1 by simp,show(w.setCell ⟨x,14,none⟩ (.bool true)).heap.size=w.heap.size by simp]at h
   exact ah.turn [_,_] [_,_,_,_,_,_,_] h
  have HS4:=kH S4
  unfold aS aB at HS4
  simp only at HS4
  clear S4
  generalize hW2:((w.setCell ⟨x,14,none⟩ (.bool true)).alloc (.cells #[.int .i64 4,.int .i64 ae,.int .i64 av,.bool aac] 35 (0,0))).alloc (.cells #[.int .i64 0,.int .i64 0,.int .i64 0,.bool false] 35 (0,0))=W2 at *
  have HW2:=kH hW2
  clear hW2
  have e0:=HS4.out.cell 5
  have e5:=HS4.out.cell 11
  have e23:=HS4.out.cell 23
  have e24:=HS4.out.cell 24
  have g23:=HS4.out.froz 23
  have g24:=HS4.out.froz 24
  have hby:=fun j=>(HS4.out.pull [_,_,_,_,_,_,_]).cell j
  have hbf:=fun j=>(HS4.out.pull [_,_,_,_,_,_,_]).froz j
  have y0:=hby 0
  have y1:=hby 1
  have y3:=hby 3
  simp only[aH,gA,gZ,gS]at e0 e5 e23 e24 y0 y1 y3
  obtain⟨⟨a0,a1,a2,a3⟩,⟨i0,i1,i2,i3⟩⟩:=(HS4.out.pull [_,_,_,_,_,_,_,_]).ansBox
  clear hby hbf
  go_wp2_with fail
  go_quiet(fail)
  go_wp2_with fail
  go_region
  have S6:=(ah.pErr (ah.pOver (HS4.out.drewN nq) true) ae).drew
  have S7:=S6.pull [_,_,_,_,_,_,_,_]
  have HS7:=kH S7
  clear S6 S7
  go_wp2
  refine ah.ret ⟨4,ae,0,aac⟩ rfl HS7.out rfl rfl fun W' SF=>⟨by simp[bL],.over,.fail rfl,{f with published:=true,over:=true,err:=ae},st,cs,ts,_,⟨rfl,hts⟩,(SF.pull [_,_,_,_,_,_,_]).drop⟩
theorem wz(hS:ah w0 X (jC x k f st cs ts old t F Cs) w)(hts:ts.length<=16)(hc:co k.c)(hn:0<t.told.length/\t.told.length<=1073741824)(ho:old.length+t.told.length<=1073741824)(hnth:0<=f.nth/\f.nth<=255)(hkt:k.tries<=255)(hov:f.over=false)(ae av:Int)(aac:Bool)(e3:(ae == 3)=true)(hlt9:decide (f.nth<k.tries)=false) :
  Calls Tryz.prog 43 #[ptr x,(⟨4,ae,av,aac⟩:aM).val] w (dC w0 X Cs x k f old t ⟨4,ae,av,aac⟩):=by
 have S1:ah w0 X (jC x k f st cs ts old t F (ag w.heap.size (aS ⟨4,ae,av,aac⟩)::ag (w.heap.size+1) aB::Cs)) ((w.alloc (aS ⟨4,ae,av,aac⟩)).alloc aB):=by
  have h:=((hS.new (aS ⟨4,ae,av,aac⟩)).new aB).sw
  rw[show(w.alloc (aS ⟨4,ae,av,aac⟩)).heap.size=w.heap.size+1 by simp]at h
  exact ah.turn [_,_] [_,_,_,_,_,_,_] h
 have HP:=kH (jV (S1.pull [_,_,_,_,_,_]))
 have HS0:=kH hS
 have HC:=kH hc
 have HNL:=kH hn
 have HOL:=kH ho
 have HNT:=kH hnth
 have hlt:=af hS.h0
 have c12:=S1.cell 12
 have c14:=hS.cell 14
 have f14:=hS.froz 14
 simp only[aH,gA,gZ,gS]at c12 c14
 have hne:x≠w.heap.size:=Nat.ne_of_lt hlt
 have hne2:x≠w.heap.size+1:=by omega
 clear hS S1 hc hn ho
 unfold aM.val aS aB ptr at *
 generalize hpb:f.published=pb at c14
 have HPB:=kH hpb
 clear hpb
 cases pb
 ·go_enter Tryz.func43,Tryz.ntmps43
  go_wp2_with fail
  refine HP.out.mono ?_
  rintro e w1 ⟨rfl,F',S2⟩
  have S3:ah w0 X (jC x k f st cs ts old t F' (ag w.heap.size (aS ⟨4,ae,av,aac⟩)::ag (w.heap.size+1) aB::Cs)) w1:=S2.push [_,_,_,_,_,_]
  have d14:=S3.cell 14
  have g14:=S3.froz 14
  have b0:=(S3.pull [_,_,_,_,_,_,_]).cell 0
  simp only[aH,gA,gZ,gS]at d14 b0
  generalize t.phase=ph at *
  have S4:=ah.pPub S3 (ph == 5)
  have HS4:=kH S4
  clear S2 S3 S4
  go_wp2_with fail
  generalize hW2:w1.setCell ⟨x,14,none⟩ (.bool (ph == 5))=W2 at *
  have HW2:=kH hW2
  clear hW2
  have e0:=HS4.out.cell 5
  have e5:=HS4.out.cell 11
  have e23:=HS4.out.cell 23
  have e24:=HS4.out.cell 24
  have g23:=HS4.out.froz 23
  have g24:=HS4.out.froz 24
  have hby:=fun j=>(HS4.out.pull [_,_,_,_,_,_,_]).cell j
  have hbf:=fun j=>(HS4.out.pull [_,_,_,_,_,_,_]).froz j
  have y0:=hby 0
  have y1:=hby 1
  have y3:=hby 3
  simp only[aH,gA,gZ,gS]at e0 e5 e23 e24 y0 y1 y3
  obtain⟨⟨a0,a1,a2,a3⟩,⟨i0,i1,i2,i3⟩⟩:=(HS4.out.pull [_,_,_,_,_,_,_,_]).ansBox
  clear hby hbf
  go_wp2_with fail
  go_quiet(fail)
  go_wp2_with fail
  go_region
  have S6:=(ah.pErr (ah.pOver (HS4.out.drewN nq) true) ae).drew
  have S7:=S6.pull [_,_,_,_,_,_,_,_]
  have HS7:=kH S7
  clear S6 S7
  go_wp2
  refine ah.ret ⟨4,ae,0,aac⟩ rfl HS7.out rfl rfl fun W' SF=>⟨by simp[bL],.over,.fail rfl,{f with published:=(ph == 5),over:=true,err:=ae},st,cs,ts,_,⟨rfl,hts⟩,(SF.pull [_,_,_,_,_,_,_]).drop⟩
 ·go_enter Tryz.func43,Tryz.ntmps43
  go_wp2_with fail
  have S4:ah w0 X (jC x k {f with published:=true} st cs ts old t F (ag w.heap.size (aS ⟨4,ae,av,aac⟩)::ag (w.heap.size+1) aB::Cs)) (((w.setCell ⟨x,14,none⟩ (.bool true)).alloc (aS ⟨4,ae,av,aac⟩)).alloc aB):=by
   have h:=(((ah.pPub HS0.out true).new (aS ⟨4,ae,av,aac⟩)).new aB).sw
   rw[show((w.setCell ⟨x,14,none⟩ (.bool true)).alloc (aS ⟨4,ae,av,aac⟩)).heap.size=w.heap.size+1 by simp,show(w.setCell ⟨x,14,none⟩ (.bool true)).heap.size=w.heap.size by simp]at h
   exact ah.turn [_,_] [_,_,_,_,_,_,_] h
  have HS4:=kH S4
  unfold aS aB at HS4
  simp only at HS4
  clear S4
  generalize hW2:((w.setCell ⟨x,14,none⟩ (.bool true)).alloc (.cells #[.int .i64 4,.int .i64 ae,.int .i64 av,.bool aac] 35 (0,0))).alloc (.cells #[.int .i64 0,.int .i64 0,.int .i64 0,.bool false] 35 (0,0))=W2 at *
  have HW2:=kH hW2
  clear hW2
  have e0:=HS4.out.cell 5
  have e5:=HS4.out.cell 11
  have e23:=HS4.out.cell 23
  have e24:=HS4.out.cell 24
  have g23:=HS4.out.froz 23
  have g24:=HS4.out.froz 24
  have hby:=fun j=>(HS4.out.pull [_,_,_,_,_,_,_]).cell j
  have hbf:=fun j=>(HS4.out.pull [_,_,_,_,_,_,_]).froz j
  have y0:=hby 0
  have y1:=hby 1
  have y3:=hby 3
  simp only[aH,gA,gZ,gS]at e0 e5 e23 e24 y0 y1 y3
  obtain⟨⟨a0,a1,a2,a3⟩,⟨i0,i1,i2,i3⟩⟩:=(HS4.out.pull [_,_,_,_,_,_,_,_]).ansBox
  clear hby hbf
  go_wp2_with fail
  go_quiet(fail)
  go_wp2_with fail
  go_region
  have S6:=(ah.pErr (ah.pOver (HS4.out.drewN nq) true) ae).drew
  have S7:=S6.pull [_,_,_,_,_,_,_,_]
  have HS7:=kH S7
  clear S6 S7
  go_wp2
  refine ah.ret ⟨4,ae,0,aac⟩ rfl HS7.out rfl rfl fun W' SF=>⟨by simp[bL],.over,.fail rfl,{f with published:=true,over:=true,err:=ae},st,cs,ts,_,⟨rfl,hts⟩,(SF.pull [_,_,_,_,_,_,_]).drop⟩
theorem wy(hS:ah w0 X (jC x k f st cs ts old t F Cs) w)(hts:ts.length<=16)(hc:co k.c)(hn:0<t.told.length/\t.told.length<=1073741824)(ho:old.length+t.told.length<=1073741824)(hnth:0<=f.nth/\f.nth<=255)(hkt:k.tries<=255)(hov:f.over=false)(ae av:Int)(aac:Bool)(e3:(ae == 3)=false)(e4:(ae == 4)=true)(hlt9:decide (f.nth<k.tries)=false) :
  Calls Tryz.prog 43 #[ptr x,(⟨4,ae,av,aac⟩:aM).val] w (dC w0 X Cs x k f old t ⟨4,ae,av,aac⟩):=by
 have S1:ah w0 X (jC x k f st cs ts old t F (ag w.heap.size (aS ⟨4,ae,av,aac⟩)::ag (w.heap.size+1) aB::Cs)) ((w.alloc (aS ⟨4,ae,av,aac⟩)).alloc aB):=by
  have h:=((hS.new (aS ⟨4,ae,av,aac⟩)).new aB).sw
  rw[show(w.alloc (aS ⟨4,ae,av,aac⟩)).heap.size=w.heap.size+1 by simp]at h
  exact ah.turn [_,_] [_,_,_,_,_,_,_] h
 have HP:=kH (jV (S1.pull [_,_,_,_,_,_]))
 have HS0:=kH hS
 have HC:=kH hc
 have HNL:=kH hn
 have HOL:=kH ho
 have HNT:=kH hnth
 have hlt:=af hS.h0
 have c12:=S1.cell 12
 have c14:=hS.cell 14
 have f14:=hS.froz 14
 simp only[aH,gA,gZ,gS]at c12 c14
 have hne:x≠w.heap.size:=Nat.ne_of_lt hlt
 have hne2:x≠w.heap.size+1:=by omega
 clear hS S1 hc hn ho
 unfold aM.val aS aB ptr at *
 generalize hpb:f.published=pb at c14
 have HPB:=kH hpb
 clear hpb
 cases pb
 ·go_enter Tryz.func43,Tryz.ntmps43
  go_wp2_with fail
  refine HP.out.mono ?_
  rintro e w1 ⟨rfl,F',S2⟩
  have S3:ah w0 X (jC x k f st cs ts old t F' (ag w.heap.size (aS ⟨4,ae,av,aac⟩)::ag (w.heap.size+1) aB::Cs)) w1:=S2.push [_,_,_,_,_,_]
  have d14:=S3.cell 14
  have g14:=S3.froz 14
  have b0:=(S3.pull [_,_,_,_,_,_,_]).cell 0
  simp only[aH,gA,gZ,gS]at d14 b0
  generalize t.phase=ph at *
  have S4:=ah.pPub S3 (ph == 5)
  have HS4:=kH S4
  clear S2 S3 S4
  go_wp2_with fail
  generalize hW2:w1.setCell ⟨x,14,none⟩ (.bool (ph == 5))=W2 at *
  have HW2:=kH hW2
  clear hW2
  have e0:=HS4.out.cell 5
  have e5:=HS4.out.cell 11
  have e23:=HS4.out.cell 23
  have e24:=HS4.out.cell 24
  have g23:=HS4.out.froz 23
  have g24:=HS4.out.froz 24
  have hby:=fun j=>(HS4.out.pull [_,_,_,_,_,_,_]).cell j
  have hbf:=fun j=>(HS4.out.pull [_,_,_,_,_,_,_]).froz j
  have y0:=hby 0
  have y1:=hby 1
  have y3:=hby 3
  simp only[aH,gA,gZ,gS]at e0 e5 e23 e24 y0 y1 y3
  obtain⟨⟨a0,a1,a2,a3⟩,⟨i0,i1,i2,i3⟩⟩:=(HS4.out.pull [_,_,_,_,_,_,_,_]).ansBox
  clear hby hbf
  go_wp2_with fail
  go_quiet(fail)
  go_wp2_with fail
  go_region
  have S6:=(ah.pErr (ah.pOver (HS4.out.drewN nq) true) ae).drew
  have S7:=S6.pull [_,_,_,_,_,_,_,_]
  have HS7:=kH S7
  clear S6 S7
  go_wp2
  refine ah.ret ⟨4,ae,0,aac⟩ rfl HS7.out rfl rfl fun W' SF=>⟨by simp[bL],.over,.fail rfl,{f with published:=(ph == 5),over:=true,err:=ae},st,cs,ts,_,⟨rfl,hts⟩,(SF.pull [_,_,_,_,_,_,_]).drop⟩
 ·go_enter Tryz.func43,Tryz.ntmps43
  go_wp2_with fail
  have S4:ah w0 X (jC x k {f with published:=true} st cs ts old t F (ag w.heap.size (aS ⟨4,ae,av,aac⟩)::ag (w.heap.size+1) aB::Cs)) (((w.setCell ⟨x,14,none⟩ (.bool true)).alloc (aS ⟨4,ae,av,aac⟩)).alloc aB):=by
   have h:=(((ah.pPub HS0.out true).new (aS ⟨4,ae,av,aac⟩)).new aB).sw
   rw[show((w.setCell ⟨x,14,none⟩ (.bool true)).alloc (aS ⟨4,ae,av,aac⟩)).heap.size=w.heap.size+1 by simp,show(w.setCell ⟨x,14,none⟩ (.bool true)).heap.size=w.heap.size by simp]at h
   exact ah.turn [_,_] [_,_,_,_,_,_,_] h
  have HS4:=kH S4
  unfold aS aB at HS4
  simp only at HS4
  clear S4
  generalize hW2:((w.setCell ⟨x,14,none⟩ (.bool true)).alloc (.cells #[.int .i64 4,.int .i64 ae,.int .i64 av,.bool aac] 35 (0,0))).alloc (.cells #[.int .i64 0,.int .i64 0,.int .i64 0,.bool false] 35 (0,0))=W2 at *
  have HW2:=kH hW2
  clear hW2
  have e0:=HS4.out.cell 5
  have e5:=HS4.out.cell 11
  have e23:=HS4.out.cell 23
  have e24:=HS4.out.cell 24
  have g23:=HS4.out.froz 23
  have g24:=HS4.out.froz 24
  have hby:=fun j=>(HS4.out.pull [_,_,_,_,_,_,_]).cell j
  have hbf:=fun j=>(HS4.out.pull [_,_,_,_,_,_,_]).froz j
  have y0:=hby 0
  have y1:=hby 1
  have y3:=hby 3
  simp only[aH,gA,gZ,gS]at e0 e5 e23 e24 y0 y1 y3
  obtain⟨⟨a0,a1,a2,a3⟩,⟨i0,i1,i2,i3⟩⟩:=(HS4.out.pull [_,_,_,_,_,_,_,_]).ansBox
  clear hby hbf
  go_wp2_with fail
  go_quiet(fail)
  go_wp2_with fail
  go_region
  have S6:=(ah.pErr (ah.pOver (HS4.out.drewN nq) true) ae).drew
  have S7:=S6.pull [_,_,_,_,_,_,_,_]
  have HS7:=kH S7
  clear S6 S7
  go_wp2
  refine ah.ret ⟨4,ae,0,aac⟩ rfl HS7.out rfl rfl fun W' SF=>⟨by simp[bL],.over,.fail rfl,{f with published:=true,over:=true,err:=ae},st,cs,ts,_,⟨rfl,hts⟩,(SF.pull [_,_,_,_,_,_,_]).drop⟩
theorem uc(hS:ah w0 X (jC x k f st cs ts old t F Cs) w)(hts:ts.length<=16)(hc:co k.c)(hn:0<t.told.length/\t.told.length<=1073741824)(ho:old.length+t.told.length<=1073741824)(hnth:0<=f.nth/\f.nth<=255)(hkt:k.tries<=255)(hov:f.over=false)(ae av:Int)(aac:Bool)(e3:(ae == 3)=true)(hlt9:decide (f.nth<k.tries)=true) :
  Calls Tryz.prog 43 #[ptr x,(⟨4,ae,av,aac⟩:aM).val] w (dC w0 X Cs x k f old t ⟨4,ae,av,aac⟩):=by
 have S1:ah w0 X (jC x k f st cs ts old t F (ag w.heap.size (aS ⟨4,ae,av,aac⟩)::ag (w.heap.size+1) aB::Cs)) ((w.alloc (aS ⟨4,ae,av,aac⟩)).alloc aB):=by
  have h:=((hS.new (aS ⟨4,ae,av,aac⟩)).new aB).sw
  rw[show(w.alloc (aS ⟨4,ae,av,aac⟩)).heap.size=w.heap.size+1 by simp]at h
  exact ah.turn [_,_] [_,_,_,_,_,_,_] h
 have HP:=kH (jV (S1.pull [_,_,_,_,_,_]))
 have HS0:=kH hS
 have HC:=kH hc
 have HNL:=kH hn
 have HOL:=kH ho
 have HNT:=kH hnth
 have hlt:=af hS.h0
 have c12:=S1.cell 12
 have c14:=hS.cell 14
 have f14:=hS.froz 14
 simp only[aH,gA,gZ,gS]at c12 c14
 have hne:x≠w.heap.size:=Nat.ne_of_lt hlt
 have hne2:x≠w.heap.size+1:=by omega
 clear hS S1 hc hn ho
 unfold aM.val aS aB ptr at *
 generalize hpb:f.published=pb at c14
 have HPB:=kH hpb
 clear hpb
 cases pb
 ·go_enter Tryz.func43,Tryz.ntmps43
  go_wp2_with fail
  refine HP.out.mono ?_
  rintro e w1 ⟨rfl,F',S2⟩
  have S3:ah w0 X (jC x k f st cs ts old t F' (ag w.heap.size (aS ⟨4,ae,av,aac⟩)::ag (w.heap.size+1) aB::Cs)) w1:=S2.push [_,_,_,_,_,_]
  have d14:=S3.cell 14
  have g14:=S3.froz 14
  have b0:=(S3.pull [_,_,_,_,_,_,_]).cell 0
  simp only[aH,gA,gZ,gS]at d14 b0
  generalize t.phase=ph at *
  have S4:=ah.pPub S3 (ph == 5)
  have HS4:=kH S4
  clear S2 S3 S4
  go_wp2_with fail
  generalize hW2:w1.setCell ⟨x,14,none⟩ (.bool (ph == 5))=W2 at *
  have HW2:=kH hW2
  clear hW2
  have e0:=HS4.out.cell 5
  have e5:=HS4.out.cell 11
  have e23:=HS4.out.cell 23
  have e24:=HS4.out.cell 24
  have g23:=HS4.out.froz 23
  have g24:=HS4.out.froz 24
  have hby:=fun j=>(HS4.out.pull [_,_,_,_,_,_,_]).cell j
  have hbf:=fun j=>(HS4.out.pull [_,_,_,_,_,_,_]).froz j
  have y0:=hby 0
  have y1:=hby 1
  have y3:=hby 3
  simp only[aH,gA,gZ,gS]at e0 e5 e23 e24 y0 y1 y3
  obtain⟨⟨a0,a1,a2,a3⟩,⟨i0,i1,i2,i3⟩⟩:=(HS4.out.pull [_,_,_,_,_,_,_,_]).ansBox
  clear hby hbf
  go_wp2_with fail
  go_quiet(fail)
  have HAG:=kH (jT (HS4.out.drewN nq) HC.out HNL.out HOL.out ⟨HNT.out.1,by have:=HNT.out.2;show f.nth<=1000;omega⟩)
  unfold ptr at HAG
  go_wp2_with fail
  refine HAG.out.mono ?_
  rintro e5 w5 ⟨rfl,tx',ov',F5,S5⟩
  have S6:ah w0 X (jC x k (eS {f with published:=(ph == 5)} tx' ov') [] [] [] (old++t.told) (cZ k.c.ring k.c.writes k.c.stamps k.c.multi) F5 (ag w.heap.size (aS ⟨4,ae,av,aac⟩)::ag (w.heap.size+1) aB::Cs)) w5:=S5
  have hbz:=fun j=>(S6.pull [_,_,_,_,_,_,_]).cell j
  have v0:=hbz 0
  have v1:=hbz 1
  have v3:=hbz 3
  simp only[gA,gZ,gS]at v0 v1 v3
  have S7:=S6.pull [_,_,_,_,_,_,_,_]
  obtain⟨⟨n0,n1,n2,n3⟩,⟨m0,m1,m2,m3⟩⟩:=S7.ansBox
  have HS7:=kH S7
  clear S5 S6 S7 hbz
  go_wp2
  refine ah.ret ⟨4,ae,0,aac⟩ rfl HS7.out rfl rfl fun W' SF=>⟨by simp[bL],.on ⟨cZ k.c.ring k.c.writes k.c.stamps k.c.multi,false,false,old++t.told⟩,.again rfl,eS {f with published:=(ph == 5)} tx' ov',[],[],[],F5,⟨⟨ko,rfl,fun h=>by simp at h,aK,⟨by have:=HNT.out.1;show 0<=f.nth+1;omega,by have h:=of_decide_eq_true hlt9;show f.nth+1<=255;omega⟩,fun h=>by simp[eS]at h,hov,fun _=>rfl⟩,rfl⟩,.inr rfl,(SF.pull [_,_,_,_,_,_,_]).drop⟩
 ·go_enter Tryz.func43,Tryz.ntmps43
  go_wp2_with fail
  have S4:ah w0 X (jC x k {f with published:=true} st cs ts old t F (ag w.heap.size (aS ⟨4,ae,av,aac⟩)::ag (w.heap.size+1) aB::Cs)) (((w.setCell ⟨x,14,none⟩ (.bool true)).alloc (aS ⟨4,ae,av,aac⟩)).alloc aB):=by
   have h:=(((ah.pPub HS0.out true).new (aS ⟨4,ae,av,aac⟩)).new aB).sw
   rw[show((w.setCell ⟨x,14,none⟩ (.bool true)).alloc (aS ⟨4,ae,av,aac⟩)).heap.size=w.heap.size+1 by simp,show(w.setCell ⟨x,14,none⟩ (.bool true)).heap.size=w.heap.size by simp]at h
   exact ah.turn [_,_] [_,_,_,_,_,_,_] h
  have HS4:=kH S4
  unfold aS aB at HS4
  simp only at HS4
  clear S4
  generalize hW2:((w.setCell ⟨x,14,none⟩ (.bool true)).alloc (.cells #[.int .i64 4,.int .i64 ae,.int .i64 av,.bool aac] 35 (0,0))).alloc (.cells #[.int .i64 0,.int .i64 0,.int .i64 0,.bool false] 35 (0,0))=W2 at *
  have HW2:=kH hW2
  clear hW2
  have e0:=HS4.out.cell 5
  have e5:=HS4.out.cell 11
  have e23:=HS4.out.cell 23
  have e24:=HS4.out.cell 24
  have g23:=HS4.out.froz 23
  have g24:=HS4.out.froz 24
  have hby:=fun j=>(HS4.out.pull [_,_,_,_,_,_,_]).cell j
  have hbf:=fun j=>(HS4.out.pull [_,_,_,_,_,_,_]).froz j
  have y0:=hby 0
  have y1:=hby 1
  have y3:=hby 3
  simp only[aH,gA,gZ,gS]at e0 e5 e23 e24 y0 y1 y3
  obtain⟨⟨a0,a1,a2,a3⟩,⟨i0,i1,i2,i3⟩⟩:=(HS4.out.pull [_,_,_,_,_,_,_,_]).ansBox
  clear hby hbf
  go_wp2_with fail
  go_quiet(fail)
  have HAG:=kH (jT (HS4.out.drewN nq) HC.out HNL.out HOL.out ⟨HNT.out.1,by have:=HNT.out.2;show f.nth<=1000;omega⟩)
  unfold ptr at HAG
  go_wp2_with fail
  refine HAG.out.mono ?_
  rintro e5 w5 ⟨rfl,tx',ov',F5,S5⟩
  have S6:ah w0 X (jC x k (eS {f with published:=true} tx' ov') [] [] [] (old++t.told) (cZ k.c.ring k.c.writes k.c.stamps k.c.multi) F5 (ag w.heap.size (aS ⟨4,ae,av,aac⟩)::ag (w.heap.size+1) aB::Cs)) w5:=S5
  have hbz:=fun j=>(S6.pull [_,_,_,_,_,_,_]).cell j
  have v0:=hbz 0
  have v1:=hbz 1
  have v3:=hbz 3
  simp only[gA,gZ,gS]at v0 v1 v3
  have S7:=S6.pull [_,_,_,_,_,_,_,_]
  obtain⟨⟨n0,n1,n2,n3⟩,⟨m0,m1,m2,m3⟩⟩:=S7.ansBox
  have HS7:=kH S7
  clear S5 S6 S7 hbz
  go_wp2
  refine ah.ret ⟨4,ae,0,aac⟩ rfl HS7.out rfl rfl fun W' SF=>⟨by simp[bL],.on ⟨cZ k.c.ring k.c.writes k.c.stamps k.c.multi,false,false,old++t.told⟩,.again rfl,eS {f with published:=true} tx' ov',[],[],[],F5,⟨⟨ko,rfl,fun h=>by simp at h,aK,⟨by have:=HNT.out.1;show 0<=f.nth+1;omega,by have h:=of_decide_eq_true hlt9;show f.nth+1<=255;omega⟩,fun h=>by simp[eS]at h,hov,fun _=>rfl⟩,rfl⟩,.inr rfl,(SF.pull [_,_,_,_,_,_,_]).drop⟩
theorem ub(hS:ah w0 X (jC x k f st cs ts old t F Cs) w)(hts:ts.length<=16)(hc:co k.c)(hn:0<t.told.length/\t.told.length<=1073741824)(ho:old.length+t.told.length<=1073741824)(hnth:0<=f.nth/\f.nth<=255)(hkt:k.tries<=255)(hov:f.over=false)(ae av:Int)(aac:Bool)(e3:(ae == 3)=false)(e4:(ae == 4)=true)(hlt9:decide (f.nth<k.tries)=true) :
  Calls Tryz.prog 43 #[ptr x,(⟨4,ae,av,aac⟩:aM).val] w (dC w0 X Cs x k f old t ⟨4,ae,av,aac⟩):=by
 have S1:ah w0 X (jC x k f st cs ts old t F (ag w.heap.size (aS ⟨4,ae,av,aac⟩)::ag (w.heap.size+1) aB::Cs)) ((w.alloc (aS ⟨4,ae,av,aac⟩)).alloc aB):=by
  have h:=((hS.new (aS ⟨4,ae,av,aac⟩)).new aB).sw
  rw[show(w.alloc (aS ⟨4,ae,av,aac⟩)).heap.size=w.heap.size+1 by simp]at h
  exact ah.turn [_,_] [_,_,_,_,_,_,_] h
 have HP:=kH (jV (S1.pull [_,_,_,_,_,_]))
 have HS0:=kH hS
 have HC:=kH hc
 have HNL:=kH hn
 have HOL:=kH ho
 have HNT:=kH hnth
 have hlt:=af hS.h0
 have c12:=S1.cell 12
 have c14:=hS.cell 14
 have f14:=hS.froz 14
 simp only[aH,gA,gZ,gS]at c12 c14
 have hne:x≠w.heap.size:=Nat.ne_of_lt hlt
 have hne2:x≠w.heap.size+1:=by omega
 clear hS S1 hc hn ho
 unfold aM.val aS aB ptr at *
 generalize hpb:f.published=pb at c14
 have HPB:=kH hpb
 clear hpb
 cases pb
 ·go_enter Tryz.func43,Tryz.ntmps43
  go_wp2_with fail
  refine HP.out.mono ?_
  rintro e w1 ⟨rfl,F',S2⟩
  have S3:ah w0 X (jC x k f st cs ts old t F' (ag w.heap.size (aS ⟨4,ae,av,aac⟩)::ag (w.heap.size+1) aB::Cs)) w1:=S2.push [_,_,_,_,_,_]
  have d14:=S3.cell 14
  have g14:=S3.froz 14
  have b0:=(S3.pull [_,_,_,_,_,_,_]).cell 0
  simp only[aH,gA,gZ,gS]at d14 b0
  generalize t.phase=ph at *
  have S4:=ah.pPub S3 (ph == 5)
  have HS4:=kH S4
  clear S2 S3 S4
  go_wp2_with fail
  generalize hW2:w1.setCell ⟨x,14,none⟩ (.bool (ph == 5))=W2 at *
  have HW2:=kH hW2
  clear hW2
  have e0:=HS4.out.cell 5
  have e5:=HS4.out.cell 11
  have e23:=HS4.out.cell 23
  have e24:=HS4.out.cell 24
  have g23:=HS4.out.froz 23
  have g24:=HS4.out.froz 24
  have hby:=fun j=>(HS4.out.pull [_,_,_,_,_,_,_]).cell j
  have hbf:=fun j=>(HS4.out.pull [_,_,_,_,_,_,_]).froz j
  have y0:=hby 0
  have y1:=hby 1
  have y3:=hby 3
  simp only[aH,gA,gZ,gS]at e0 e5 e23 e24 y0 y1 y3
  obtain⟨⟨a0,a1,a2,a3⟩,⟨i0,i1,i2,i3⟩⟩:=(HS4.out.pull [_,_,_,_,_,_,_,_]).ansBox
  clear hby hbf
  go_wp2_with fail
  go_quiet(fail)
  have HAG:=kH (jT (HS4.out.drewN nq) HC.out HNL.out HOL.out ⟨HNT.out.1,by have:=HNT.out.2;show f.nth<=1000;omega⟩)
  unfold ptr at HAG
  go_wp2_with fail
  refine HAG.out.mono ?_
  rintro e5 w5 ⟨rfl,tx',ov',F5,S5⟩
  have S6:ah w0 X (jC x k (eS {f with published:=(ph == 5)} tx' ov') [] [] [] (old++t.told) (cZ k.c.ring k.c.writes k.c.stamps k.c.multi) F5 (ag w.heap.size (aS ⟨4,ae,av,aac⟩)::ag (w.heap.size+1) aB::Cs)) w5:=S5
  have hbz:=fun j=>(S6.pull [_,_,_,_,_,_,_]).cell j
  have v0:=hbz 0
  have v1:=hbz 1
  have v3:=hbz 3
  simp only[gA,gZ,gS]at v0 v1 v3
  have S7:=S6.pull [_,_,_,_,_,_,_,_]
  obtain⟨⟨n0,n1,n2,n3⟩,⟨m0,m1,m2,m3⟩⟩:=S7.ansBox
  have HS7:=kH S7
  clear S5 S6 S7 hbz
  go_wp2
  refine ah.ret ⟨4,ae,0,aac⟩ rfl HS7.out rfl rfl fun W' SF=>⟨by simp[bL],.on ⟨cZ k.c.ring k.c.writes k.c.stamps k.c.multi,false,false,old++t.told⟩,.again rfl,eS {f with published:=(ph == 5)} tx' ov',[],[],[],F5,⟨⟨ko,rfl,fun h=>by simp at h,aK,⟨by have:=HNT.out.1;show 0<=f.nth+1;omega,by have h:=of_decide_eq_true hlt9;show f.nth+1<=255;omega⟩,fun h=>by simp[eS]at h,hov,fun _=>rfl⟩,rfl⟩,.inr rfl,(SF.pull [_,_,_,_,_,_,_]).drop⟩
 ·go_enter Tryz.func43,Tryz.ntmps43
  go_wp2_with fail
  have S4:ah w0 X (jC x k {f with published:=true} st cs ts old t F (ag w.heap.size (aS ⟨4,ae,av,aac⟩)::ag (w.heap.size+1) aB::Cs)) (((w.setCell ⟨x,14,none⟩ (.bool true)).alloc (aS ⟨4,ae,av,aac⟩)).alloc aB):=by
   have h:=(((ah.pPub HS0.out true).new (aS ⟨4,ae,av,aac⟩)).new aB).sw
   rw[show((w.setCell ⟨x,14,none⟩ (.bool true)).alloc (aS ⟨4,ae,av,aac⟩)).heap.size=w.heap.size+1 by simp,show(w.setCell ⟨x,14,none⟩ (.bool true)).heap.size=w.heap.size by simp]at h
   exact ah.turn [_,_] [_,_,_,_,_,_,_] h
  have HS4:=kH S4
  unfold aS aB at HS4
  simp only at HS4
  clear S4
  generalize hW2:((w.setCell ⟨x,14,none⟩ (.bool true)).alloc (.cells #[.int .i64 4,.int .i64 ae,.int .i64 av,.bool aac] 35 (0,0))).alloc (.cells #[.int .i64 0,.int .i64 0,.int .i64 0,.bool false] 35 (0,0))=W2 at *
  have HW2:=kH hW2
  clear hW2
  have e0:=HS4.out.cell 5
  have e5:=HS4.out.cell 11
  have e23:=HS4.out.cell 23
  have e24:=HS4.out.cell 24
  have g23:=HS4.out.froz 23
  have g24:=HS4.out.froz 24
  have hby:=fun j=>(HS4.out.pull [_,_,_,_,_,_,_]).cell j
  have hbf:=fun j=>(HS4.out.pull [_,_,_,_,_,_,_]).froz j
  have y0:=hby 0
  have y1:=hby 1
  have y3:=hby 3
  simp only[aH,gA,gZ,gS]at e0 e5 e23 e24 y0 y1 y3
  obtain⟨⟨a0,a1,a2,a3⟩,⟨i0,i1,i2,i3⟩⟩:=(HS4.out.pull [_,_,_,_,_,_,_,_]).ansBox
  clear hby hbf
  go_wp2_with fail
  go_quiet(fail)
  have HAG:=kH (jT (HS4.out.drewN nq) HC.out HNL.out HOL.out ⟨HNT.out.1,by have:=HNT.out.2;show f.nth<=1000;omega⟩)
  unfold ptr at HAG
  go_wp2_with fail
  refine HAG.out.mono ?_
  rintro e5 w5 ⟨rfl,tx',ov',F5,S5⟩
  have S6:ah w0 X (jC x k (eS {f with published:=true} tx' ov') [] [] [] (old++t.told) (cZ k.c.ring k.c.writes k.c.stamps k.c.multi) F5 (ag w.heap.size (aS ⟨4,ae,av,aac⟩)::ag (w.heap.size+1) aB::Cs)) w5:=S5
  have hbz:=fun j=>(S6.pull [_,_,_,_,_,_,_]).cell j
  have v0:=hbz 0
  have v1:=hbz 1
  have v3:=hbz 3
  simp only[gA,gZ,gS]at v0 v1 v3
  have S7:=S6.pull [_,_,_,_,_,_,_,_]
  obtain⟨⟨n0,n1,n2,n3⟩,⟨m0,m1,m2,m3⟩⟩:=S7.ansBox
  have HS7:=kH S7
  clear S5 S6 S7 hbz
  go_wp2
  refine ah.ret ⟨4,ae,0,aac⟩ rfl HS7.out rfl rfl fun W' SF=>⟨by simp[bL],.on ⟨cZ k.c.ring k.c.writes k.c.stamps k.c.multi,false,false,old++t.told⟩,.again rfl,eS {f with published:=true} tx' ov',[],[],[],F5,⟨⟨ko,rfl,fun h=>by simp at h,aK,⟨by have:=HNT.out.1;show 0<=f.nth+1;omega,by have h:=of_decide_eq_true hlt9;show f.nth+1<=255;omega⟩,fun h=>by simp[eS]at h,hov,fun _=>rfl⟩,rfl⟩,.inr rfl,(SF.pull [_,_,_,_,_,_,_]).drop⟩
end
section
variable {w0:World}{X:List Nat}{Cs:List aw}{w:World}{x:Nat}{k:cl}{f:PF}{st cs ts:List Int}{t:bZ}{F:List Nat}{old:List bM}
theorem mu(hS:ah w0 X (jC x k f st cs ts old t F Cs) w)(hok:bX st cs ts)(hb:f.begun=true)(hcm:f.came≠.no)(hw:aI f.word)(hnth:0<=f.nth/\f.nth<=255)(hkt:k.tries<=255)(hov:f.over=false)(hl:f.came=.loaded->st.length<=31)
  (hc:co k.c) (hn:t.told.length<=1073741824) (ho:old.length+t.told.length<=1073741824) (a:aM) (hv:aI a.value) (h3:a.kind=3->t.way=.no) (h4:a.kind=4->0<t.told.length) :
  Calls Tryz.prog 43 #[ptr x,a.val] w (dC w0 X Cs x k f old t a):=by
 obtain⟨ak,ae,av,aac⟩:=a
 simp only at hv h3 h4
 by_cases e3:ak=3
 ·subst e3
  exact yC hS hok hb hcm hw hnth hl (h3 rfl) ae av aac hv
 by_cases e4:ak=4
 ·subst e4
  have hn':=And.intro (h4 rfl) hn
  by_cases k3:ae=3
  ·by_cases kt:f.nth<k.tries
   ·exact uc hS hok.tsl hc hn' ho hnth hkt hov ae av aac (by simp[k3]) (decide_eq_true kt)
   ·exact wz hS hok.tsl hc hn' ho hnth hkt hov ae av aac (by simp[k3]) (decide_eq_false kt)
  ·by_cases k4:ae=4
   ·by_cases kt:f.nth<k.tries
    ·exact ub hS hok.tsl hc hn' ho hnth hkt hov ae av aac (beq_eq_false_iff_ne.2 k3) (by simp[k4]) (decide_eq_true kt)
    ·exact wy hS hok.tsl hc hn' ho hnth hkt hov ae av aac (beq_eq_false_iff_ne.2 k3) (by simp[k4]) (decide_eq_false kt)
   ·exact wA hS hok.tsl hc hn' ho hnth hkt hov ae av aac (beq_eq_false_iff_ne.2 k3) (beq_eq_false_iff_ne.2 k4)
 exact Dn hS hok hb hcm hw hnth hov hl ⟨ak,ae,av,aac⟩ e3 e4
end
section
variable {w0:World}{X:List Nat}{Cs:List aw}{w:World}{x p L:Nat}{k:cl}{f:PF}{st cs ts:List Int}{t:bZ}{F F2:List Nat}{old:List bM}{m:au}{y:es}{c:eb}
theorem ah.pCame(h:ah w0 X (ag x (bm k f)::Cs) w)(c:eb):ah w0 X (ag x (bm k {f with came:=c})::Cs) (w.setCell ⟨x,19,none⟩ c.val):=h.pset 19 _ (by simp[aH])
def nH(w0:World)(X:List Nat)(Cs:List aw)(x p L:Nat)(k:cl)(f:PF)(old:List bM)(c:eb)(r:aM×bZ×au)(e:Ending)(w':World):Prop :=
 ∃ nx F2 L',L'<=L+1/\e=.returned (bL r.1 c.fin).val/\iy k.c old r.2.1 c.fin r.1 nx/\cU w0 X (aG p r.2.2 L' F2::Cs) x k f c old r.2.1 nx w'
theorem cU.blk{a b:aw}{g:Nat}{o:Obj}{nx:cM}{w':World}(h:cU w0 X (a::b::ag g o::Cs) x k f c old t nx w'):w'.heap[g]?=some o:=by
 cases nx with
 | on j =>
  obtain⟨f',st,cs,ts,F',h1,h2,hS⟩:=h
  exact(hS.pull [_,_,_,_,_,_,_,_,_]).h0
 | over =>
  obtain⟨f',st,cs,ts,F',h1,hS⟩:=h
  exact(hS.pull [_,_,_,_,_,_,_,_,_]).h0
theorem cU.ret{a b:aw}{g:Nat}{nx:cM}{W:World}{a0 b0 c0 d0:Value}{fn:Func}{Q:Ending->World->Prop}{act:Act}{q:Tmp}(an:aM)(hres:fn.results=#[.cell q 35])
  (h:cU w0 X (a::b::ag g (.cells #[a0,b0,c0,d0] 35 (0,0))::Cs) x k f c old t nx W) (hg:act.tmps.getD q undef=.pointer (some ⟨g,0,none⟩)) (hd:act.defers=[])
  (hQ:∀ W',cU w0 X (a::Cs) x k f c old t nx W'->Q (.returned an.val) W') :
  bodyPost Tryz.prog fn Q .ret act ((((W.setCell ⟨g,0,none⟩ (.int .i64 an.kind)).setCell ⟨g,1,none⟩ (.int .i64 an.err)).setCell ⟨g,2,none⟩ (.int .i64 an.value)).setCell ⟨g,3,none⟩ (.bool an.access)):=by
 cases nx with
 | on j =>
  obtain⟨f',st,cs,ts,F',h1,h2,hS⟩:=h
  exact ah.ret an hres (hS.pull [_,_,_,_,_,_,_,_,_]) hg hd fun W' SF=>hQ W' ⟨f',st,cs,ts,F',h1,h2,(SF.pull [_,_,_,_,_,_,_,_]).drop⟩
 | over =>
  obtain⟨f',st,cs,ts,F',h1,hS⟩:=h
  exact ah.ret an hres (hS.pull [_,_,_,_,_,_,_,_,_]) hg hd fun W' SF=>hQ W' ⟨f',st,cs,ts,F',h1,(SF.pull [_,_,_,_,_,_,_,_]).drop⟩
theorem ia(hS:ah w0 X (jC x k f st cs ts old t F (aG p m L F2::Cs)) w)(hok:bX st cs ts)(hb:f.begun=true)(hw:aI f.word)(hnth:0<=f.nth/\f.nth<=255)(hkt:k.tries<=255)(hov:f.over=false)(c:eb)(hcn:c≠.no)(hl:c=.loaded->st.length<=31)
  (hc:co k.c) (htx:dM k.c t m) (hway:t.way=.no) (hfit:cz m t y=true) (hyv:aI y.value) (hn:t.told.length<=1073741820) (ho:old.length+t.told.length<=1073741820) (hL:L<=1073741824) (th:Int) :
  Calls Tryz.prog 40 #[ptr x,ptr p,.int .i64 th,dE y,c.val] w (nH w0 X Cs x p L k f old c (cB m t y)):=by
 have c12:=hS.cell 12
 have c19:=hS.cell 19
 have f19:=hS.froz 19
 simp only[aH,gA,gZ,gS]at c12 c19
 have hlt:=af hS.h0
 have S1:ah w0 X (jC x k {f with came:=c} st cs ts old t F (aG p m L F2::ag w.heap.size (fK y)::ag (w.heap.size+1) aB::Cs)) (((w.setCell ⟨x,19,none⟩ c.val).alloc (fK y)).alloc aB):=by
  have h:=(((ah.pCame hS c).new (fK y)).new aB).sw
  rw[show((w.setCell ⟨x,19,none⟩ c.val).alloc (fK y)).heap.size=w.heap.size+1 by simp,show(w.setCell ⟨x,19,none⟩ c.val).heap.size=w.heap.size by simp]at h
  exact ah.turn [_,_] [_,_,_,_,_,_,_,_] h
 obtain⟨n,hcv,-,-⟩:=re (k:=k) (f:={f with came:=c}) hcn
 have hcv:c.val=.func (.func n) #[] #[]:=hcv
 rw[hcv]at S1 ⊢
 clear hcv
 have HD:=kH (fun q=>zZ hc ((S1.drewN q).turn [_,_,_,_,_,_] [_,_]) htx hway hfit hyv th (by omega) hL)
 have hmem:aY m:=((S1.turn [_,_,_,_,_,_] [_,_]).h1:dk _ p m L F2).ok
 have HFA:=kH (nv hc hmem htx hway hfit hyv)
 clear hS
 generalize cB m t y=R at *
 obtain⟨a,t',m'⟩:=R
 simp only at HD HFA
 obtain⟨kind,cell,value,code⟩:=y
 unfold dE fK aB ptr at *
 go_enter Tryz.func40,Tryz.ntmps40
 go_wp2_with fail
 generalize hW1:((w.setCell ⟨x,19,none⟩ (.func (.func n) #[] #[])).alloc (.cells #[.int .i64 kind,.int .i64 cell,.int .i64 value,.int .i64 code] 109 (0,0))).alloc (.cells #[.int .i64 0,.int .i64 0,.int .i64 0,.bool false] 35 (0,0))=W1 at *
 have HW1:=kH hW1
 clear hW1
 have e12:=S1.cell 12
 have hbx:=fun j=>(S1.pull [_,_,_,_,_,_,_,_]).cell j
 have y0:=hbx 0
 have y1:=hbx 1
 have y2:=hbx 2
 have y3:=hbx 3
 simp only[aH,gA,gZ,gS]at e12 y0 y1 y2 y3
 unfold ptr at e12
 clear hbx S1
 go_region_law(first|(go_simp;go_at_call 56;refine(HD.out _).mono ?_;rintro e2 w2 ⟨rfl,F3,F4,L',hL',S2⟩;have S3:ah w0 X (jC x k {f with came:=c} st cs ts old t' F3 (aG p m' L' F4::_::_::Cs)) w2:=S2.turn [_,_] [_,_,_,_,_,_];have HCM:=kH (mu S3 hok hb hcn hw hnth hkt hov hl hc (by have:=HFA.out.len;omega) (by have:=HFA.out.len;omega) a HFA.out.val HFA.out.way HFA.out.told);clear S2 S3)|(go_simp;go_at_call 43;refine HCM.out.mono ?_;rintro e3 w3 ⟨rfl,nx,hcome,hjob⟩;obtain⟨⟨a0,a1,a2,a3⟩,⟨g0,g1,g2,g3⟩⟩:=cw hjob.blk;unfold aM.val;have HJ:=kH hjob;have HCO:=kH hcome;clear hjob hcome))
 all_goals
  go_wp2
  refine cU.ret (bL a c.fin) rfl HJ.out rfl rfl fun W' hj=>⟨nx,F4,L',hL',rfl,HCO.out,?_⟩
  cases nx with
  | on j=>exact hj
  | over=>exact hj
end
section
variable {w0:World}{X:List Nat}{Cs Cs':List aw}{w:World}{x:Nat}{k:cl}{f:PF}{st cs ts xs:List Int}{lv:Value}
theorem aX.perm{e:Ending}{w':World}(h:aX w0 X Cs x k f e w')(hp:Cs.Perm Cs'):aX w0 X Cs' x k f e w':=by
 obtain⟨h1,sv,cv,tv,at_,st,cs,ts,hok,hS⟩:=h
 exact⟨h1,sv,cv,tv,at_,st,cs,ts,hok,hS.perm (((((hp.cons _).cons _).cons _).cons _).cons _)⟩
structure fB(c o:Int):Prop where
 code:0<=c/\c<=40
 i64:aI o
 small:c=28\/32<c->0<=o/\o<=255
theorem CQ(h:xs.length=0):xs=[]:=List.eq_nil_of_length_eq_zero h
theorem len1(h:xs.length=1):∃ a,xs=[a]:=by
 match xs,h with
 | [a],_=>exact⟨a,rfl⟩
theorem kF(h:xs.length=2):∃ a b,xs=[a,b]:=by
 match xs,h with
 | [a,b],_=>exact⟨a,b,rfl⟩
def bG(w:World)(dv:Value)(args:Array Value)(R:Ending->World->Prop):Prop:=∃ n caps,dv=.func (.func n) #[] caps/\(∀ (a:Array Value) (W:World),(callFunc n a).run Tryz.prog W=.ok (.enter n a) W)/\Calls Tryz.prog n (args++caps) w R
theorem dov_1{b0 b1 b2 b3 b4 b5 b6 b7 b8 b9 b10 b11 b12 b13:Nat}{o:Int}(hS:ah w0 X (pC x k f st cs ts (cI lv xs::(ch b0 b1 b2 b3 b4 b5 b6 b7 b8 b9 b10 b11 b12 b13++Cs))) w)(hok:bX st cs ts)(ho:fB 1 o)(hx:xs.length=iZ 1)(hi:∀ v∈xs,aI v)(hp:st.length+je 1<=32)(hcs:(1:Nat)=26->cs.length<=7)(hcr:(1:Nat)=27->0<cs.length)(hts:(1:Nat)=29->ts.length<=15)(ha:k.args.length<=4)(hai:∀ v∈k.args,aI v) :
  bG w ((jA b0 b1 b2 b3 b4 b5 b6 b7 b8 b9 b10 b11 b12 b13).getD 1 .nilFunc) #[ptr x,ew 1 o,lv] (aX w0 X (cI lv xs::(ch b0 b1 b2 b3 b4 b5 b6 b7 b8 b9 b10 b11 b12 b13++Cs)) x k f):=by
 obtain rfl:=CQ hx
 exact⟨_,_,rfl,fun _ _=>by kernel_rfl,kC hS hok hp 1 o ho.i64⟩
theorem dov_2{b0 b1 b2 b3 b4 b5 b6 b7 b8 b9 b10 b11 b12 b13:Nat}{o:Int}(hS:ah w0 X (pC x k f st cs ts (cI lv xs::(ch b0 b1 b2 b3 b4 b5 b6 b7 b8 b9 b10 b11 b12 b13++Cs))) w)(hok:bX st cs ts)(ho:fB 2 o)(hx:xs.length=iZ 2)(hi:∀ v∈xs,aI v)(hp:st.length+je 2<=32)(hcs:(2:Nat)=26->cs.length<=7)(hcr:(2:Nat)=27->0<cs.length)(hts:(2:Nat)=29->ts.length<=15)(ha:k.args.length<=4)(hai:∀ v∈k.args,aI v) :
  bG w ((jA b0 b1 b2 b3 b4 b5 b6 b7 b8 b9 b10 b11 b12 b13).getD 2 .nilFunc) #[ptr x,ew 2 o,lv] (aX w0 X (cI lv xs::(ch b0 b1 b2 b3 b4 b5 b6 b7 b8 b9 b10 b11 b12 b13++Cs)) x k f):=by
 obtain rfl:=CQ hx
 exact⟨_,_,rfl,fun _ _=>by kernel_rfl,kC hS hok hp 2 o ho.i64⟩
theorem dov_3{b0 b1 b2 b3 b4 b5 b6 b7 b8 b9 b10 b11 b12 b13:Nat}{o:Int}(hS:ah w0 X (pC x k f st cs ts (cI lv xs::(ch b0 b1 b2 b3 b4 b5 b6 b7 b8 b9 b10 b11 b12 b13++Cs))) w)(hok:bX st cs ts)(ho:fB 3 o)(hx:xs.length=iZ 3)(hi:∀ v∈xs,aI v)(hp:st.length+je 3<=32)(hcs:(3:Nat)=26->cs.length<=7)(hcr:(3:Nat)=27->0<cs.length)(hts:(3:Nat)=29->ts.length<=15)(ha:k.args.length<=4)(hai:∀ v∈k.args,aI v) :
  bG w ((jA b0 b1 b2 b3 b4 b5 b6 b7 b8 b9 b10 b11 b12 b13).getD 3 .nilFunc) #[ptr x,ew 3 o,lv] (aX w0 X (cI lv xs::(ch b0 b1 b2 b3 b4 b5 b6 b7 b8 b9 b10 b11 b12 b13++Cs)) x k f):=by
 obtain rfl:=CQ hx
 exact⟨_,_,rfl,fun _ _=>by kernel_rfl,kC hS hok hp 3 o ho.i64⟩
theorem dov_4{b0 b1 b2 b3 b4 b5 b6 b7 b8 b9 b10 b11 b12 b13:Nat}{o:Int}(hS:ah w0 X (pC x k f st cs ts (cI lv xs::(ch b0 b1 b2 b3 b4 b5 b6 b7 b8 b9 b10 b11 b12 b13++Cs))) w)(hok:bX st cs ts)(ho:fB 4 o)(hx:xs.length=iZ 4)(hi:∀ v∈xs,aI v)(hp:st.length+je 4<=32)(hcs:(4:Nat)=26->cs.length<=7)(hcr:(4:Nat)=27->0<cs.length)(hts:(4:Nat)=29->ts.length<=15)(ha:k.args.length<=4)(hai:∀ v∈k.args,aI v) :
  bG w ((jA b0 b1 b2 b3 b4 b5 b6 b7 b8 b9 b10 b11 b12 b13).getD 4 .nilFunc) #[ptr x,ew 4 o,lv] (aX w0 X (cI lv xs::(ch b0 b1 b2 b3 b4 b5 b6 b7 b8 b9 b10 b11 b12 b13++Cs)) x k f):=by
 obtain⟨a,rfl⟩:=len1 hx
 exact⟨_,_,rfl,fun _ _=>by kernel_rfl,Bb hS hok hp 4 o (hi a (by simp))⟩
theorem dov_5{b0 b1 b2 b3 b4 b5 b6 b7 b8 b9 b10 b11 b12 b13:Nat}{o:Int}(hS:ah w0 X (pC x k f st cs ts (cI lv xs::(ch b0 b1 b2 b3 b4 b5 b6 b7 b8 b9 b10 b11 b12 b13++Cs))) w)(hok:bX st cs ts)(ho:fB 5 o)(hx:xs.length=iZ 5)(hi:∀ v∈xs,aI v)(hp:st.length+je 5<=32)(hcs:(5:Nat)=26->cs.length<=7)(hcr:(5:Nat)=27->0<cs.length)(hts:(5:Nat)=29->ts.length<=15)(ha:k.args.length<=4)(hai:∀ v∈k.args,aI v) :
  bG w ((jA b0 b1 b2 b3 b4 b5 b6 b7 b8 b9 b10 b11 b12 b13).getD 5 .nilFunc) #[ptr x,ew 5 o,lv] (aX w0 X (cI lv xs::(ch b0 b1 b2 b3 b4 b5 b6 b7 b8 b9 b10 b11 b12 b13++Cs)) x k f):=by
 exact⟨_,_,rfl,fun _ _=>by kernel_rfl,yx hS hok 5 o⟩
theorem dov_6{b0 b1 b2 b3 b4 b5 b6 b7 b8 b9 b10 b11 b12 b13:Nat}{o:Int}(hS:ah w0 X (pC x k f st cs ts (cI lv xs::(ch b0 b1 b2 b3 b4 b5 b6 b7 b8 b9 b10 b11 b12 b13++Cs))) w)(hok:bX st cs ts)(ho:fB 6 o)(hx:xs.length=iZ 6)(hi:∀ v∈xs,aI v)(hp:st.length+je 6<=32)(hcs:(6:Nat)=26->cs.length<=7)(hcr:(6:Nat)=27->0<cs.length)(hts:(6:Nat)=29->ts.length<=15)(ha:k.args.length<=4)(hai:∀ v∈k.args,aI v) :
  bG w ((jA b0 b1 b2 b3 b4 b5 b6 b7 b8 b9 b10 b11 b12 b13).getD 6 .nilFunc) #[ptr x,ew 6 o,lv] (aX w0 X (cI lv xs::(ch b0 b1 b2 b3 b4 b5 b6 b7 b8 b9 b10 b11 b12 b13++Cs)) x k f):=by
 obtain⟨a,b,rfl⟩:=kF hx
 exact⟨_,_,rfl,fun _ _=>by kernel_rfl,xy hS hok hp 6 o (hi a (by simp)) (hi b (by simp))⟩
theorem dov_7{b0 b1 b2 b3 b4 b5 b6 b7 b8 b9 b10 b11 b12 b13:Nat}{o:Int}(hS:ah w0 X (pC x k f st cs ts (cI lv xs::(ch b0 b1 b2 b3 b4 b5 b6 b7 b8 b9 b10 b11 b12 b13++Cs))) w)(hok:bX st cs ts)(ho:fB 7 o)(hx:xs.length=iZ 7)(hi:∀ v∈xs,aI v)(hp:st.length+je 7<=32)(hcs:(7:Nat)=26->cs.length<=7)(hcr:(7:Nat)=27->0<cs.length)(hts:(7:Nat)=29->ts.length<=15)(ha:k.args.length<=4)(hai:∀ v∈k.args,aI v) :
  bG w ((jA b0 b1 b2 b3 b4 b5 b6 b7 b8 b9 b10 b11 b12 b13).getD 7 .nilFunc) #[ptr x,ew 7 o,lv] (aX w0 X (cI lv xs::(ch b0 b1 b2 b3 b4 b5 b6 b7 b8 b9 b10 b11 b12 b13++Cs)) x k f):=by
 obtain⟨a,b,rfl⟩:=kF hx
 exact⟨_,_,rfl,fun _ _=>by kernel_rfl,xL hS hok hp 7 o (hi a (by simp)) (hi b (by simp))⟩
theorem dov_8{b0 b1 b2 b3 b4 b5 b6 b7 b8 b9 b10 b11 b12 b13:Nat}{o:Int}(hS:ah w0 X (pC x k f st cs ts (cI lv xs::(ch b0 b1 b2 b3 b4 b5 b6 b7 b8 b9 b10 b11 b12 b13++Cs))) w)(hok:bX st cs ts)(ho:fB 8 o)(hx:xs.length=iZ 8)(hi:∀ v∈xs,aI v)(hp:st.length+je 8<=32)(hcs:(8:Nat)=26->cs.length<=7)(hcr:(8:Nat)=27->0<cs.length)(hts:(8:Nat)=29->ts.length<=15)(ha:k.args.length<=4)(hai:∀ v∈k.args,aI v) :
  bG w ((jA b0 b1 b2 b3 b4 b5 b6 b7 b8 b9 b10 b11 b12 b13).getD 8 .nilFunc) #[ptr x,ew 8 o,lv] (aX w0 X (cI lv xs::(ch b0 b1 b2 b3 b4 b5 b6 b7 b8 b9 b10 b11 b12 b13++Cs)) x k f):=by
 obtain⟨a,b,rfl⟩:=kF hx
 have S1:=(ah.pull [_,_,_,_,_,_,_,_,_,_,_,_,_,_,_,_,_,_,_] hS).push [_,_,_,_,_,_]
 exact⟨_,_,rfl,fun _ _=>by kernel_rfl,(dJ add_two S1 hok hp 8 o (hi a (by simp)) (hi b (by simp))).mono fun e w' h=>h.perm ((List.perm_middle (l₁:=[_,_,_,_,_,_,_,_,_,_,_,_,_])).symm.cons _)⟩
theorem dov_9{b0 b1 b2 b3 b4 b5 b6 b7 b8 b9 b10 b11 b12 b13:Nat}{o:Int}(hS:ah w0 X (pC x k f st cs ts (cI lv xs::(ch b0 b1 b2 b3 b4 b5 b6 b7 b8 b9 b10 b11 b12 b13++Cs))) w)(hok:bX st cs ts)(ho:fB 9 o)(hx:xs.length=iZ 9)(hi:∀ v∈xs,aI v)(hp:st.length+je 9<=32)(hcs:(9:Nat)=26->cs.length<=7)(hcr:(9:Nat)=27->0<cs.length)(hts:(9:Nat)=29->ts.length<=15)(ha:k.args.length<=4)(hai:∀ v∈k.args,aI v) :
  bG w ((jA b0 b1 b2 b3 b4 b5 b6 b7 b8 b9 b10 b11 b12 b13).getD 9 .nilFunc) #[ptr x,ew 9 o,lv] (aX w0 X (cI lv xs::(ch b0 b1 b2 b3 b4 b5 b6 b7 b8 b9 b10 b11 b12 b13++Cs)) x k f):=by
 obtain⟨a,b,rfl⟩:=kF hx
 have S1:=(ah.pull [_,_,_,_,_,_,_,_,_,_,_,_,_,_,_,_,_,_] hS).push [_,_,_,_,_,_]
 exact⟨_,_,rfl,fun _ _=>by kernel_rfl,(dJ sub_two S1 hok hp 9 o (hi a (by simp)) (hi b (by simp))).mono fun e w' h=>h.perm ((List.perm_middle (l₁:=[_,_,_,_,_,_,_,_,_,_,_,_])).symm.cons _)⟩
theorem dov_10{b0 b1 b2 b3 b4 b5 b6 b7 b8 b9 b10 b11 b12 b13:Nat}{o:Int}(hS:ah w0 X (pC x k f st cs ts (cI lv xs::(ch b0 b1 b2 b3 b4 b5 b6 b7 b8 b9 b10 b11 b12 b13++Cs))) w)(hok:bX st cs ts)(ho:fB 10 o)(hx:xs.length=iZ 10)(hi:∀ v∈xs,aI v)(hp:st.length+je 10<=32)(hcs:(10:Nat)=26->cs.length<=7)(hcr:(10:Nat)=27->0<cs.length)(hts:(10:Nat)=29->ts.length<=15)(ha:k.args.length<=4)(hai:∀ v∈k.args,aI v) :
  bG w ((jA b0 b1 b2 b3 b4 b5 b6 b7 b8 b9 b10 b11 b12 b13).getD 10 .nilFunc) #[ptr x,ew 10 o,lv] (aX w0 X (cI lv xs::(ch b0 b1 b2 b3 b4 b5 b6 b7 b8 b9 b10 b11 b12 b13++Cs)) x k f):=by
 obtain⟨a,b,rfl⟩:=kF hx
 have S1:=(ah.pull [_,_,_,_,_,_,_,_,_,_,_,_,_,_,_,_,_] hS).push [_,_,_,_,_,_]
 exact⟨_,_,rfl,fun _ _=>by kernel_rfl,(dJ mul_two S1 hok hp 10 o (hi a (by simp)) (hi b (by simp))).mono fun e w' h=>h.perm ((List.perm_middle (l₁:=[_,_,_,_,_,_,_,_,_,_,_])).symm.cons _)⟩
theorem dov_11{b0 b1 b2 b3 b4 b5 b6 b7 b8 b9 b10 b11 b12 b13:Nat}{o:Int}(hS:ah w0 X (pC x k f st cs ts (cI lv xs::(ch b0 b1 b2 b3 b4 b5 b6 b7 b8 b9 b10 b11 b12 b13++Cs))) w)(hok:bX st cs ts)(ho:fB 11 o)(hx:xs.length=iZ 11)(hi:∀ v∈xs,aI v)(hp:st.length+je 11<=32)(hcs:(11:Nat)=26->cs.length<=7)(hcr:(11:Nat)=27->0<cs.length)(hts:(11:Nat)=29->ts.length<=15)(ha:k.args.length<=4)(hai:∀ v∈k.args,aI v) :
  bG w ((jA b0 b1 b2 b3 b4 b5 b6 b7 b8 b9 b10 b11 b12 b13).getD 11 .nilFunc) #[ptr x,ew 11 o,lv] (aX w0 X (cI lv xs::(ch b0 b1 b2 b3 b4 b5 b6 b7 b8 b9 b10 b11 b12 b13++Cs)) x k f):=by
 obtain⟨a,b,rfl⟩:=kF hx
 have S1:=(ah.pull [_,_,_,_,_,_,_,_,_,_,_,_,_,_,_,_] hS).push [_,_,_,_,_,_]
 exact⟨_,_,rfl,fun _ _=>by kernel_rfl,(dJ div_two S1 hok hp 11 o (hi a (by simp)) (hi b (by simp))).mono fun e w' h=>h.perm ((List.perm_middle (l₁:=[_,_,_,_,_,_,_,_,_,_])).symm.cons _)⟩
theorem dov_12{b0 b1 b2 b3 b4 b5 b6 b7 b8 b9 b10 b11 b12 b13:Nat}{o:Int}(hS:ah w0 X (pC x k f st cs ts (cI lv xs::(ch b0 b1 b2 b3 b4 b5 b6 b7 b8 b9 b10 b11 b12 b13++Cs))) w)(hok:bX st cs ts)(ho:fB 12 o)(hx:xs.length=iZ 12)(hi:∀ v∈xs,aI v)(hp:st.length+je 12<=32)(hcs:(12:Nat)=26->cs.length<=7)(hcr:(12:Nat)=27->0<cs.length)(hts:(12:Nat)=29->ts.length<=15)(ha:k.args.length<=4)(hai:∀ v∈k.args,aI v) :
  bG w ((jA b0 b1 b2 b3 b4 b5 b6 b7 b8 b9 b10 b11 b12 b13).getD 12 .nilFunc) #[ptr x,ew 12 o,lv] (aX w0 X (cI lv xs::(ch b0 b1 b2 b3 b4 b5 b6 b7 b8 b9 b10 b11 b12 b13++Cs)) x k f):=by
 obtain⟨a,b,rfl⟩:=kF hx
 have S1:=(ah.pull [_,_,_,_,_,_,_,_,_,_,_,_,_,_,_] hS).push [_,_,_,_,_,_]
 exact⟨_,_,rfl,fun _ _=>by kernel_rfl,(dJ rem_two S1 hok hp 12 o (hi a (by simp)) (hi b (by simp))).mono fun e w' h=>h.perm ((List.perm_middle (l₁:=[_,_,_,_,_,_,_,_,_])).symm.cons _)⟩
theorem dov_13{b0 b1 b2 b3 b4 b5 b6 b7 b8 b9 b10 b11 b12 b13:Nat}{o:Int}(hS:ah w0 X (pC x k f st cs ts (cI lv xs::(ch b0 b1 b2 b3 b4 b5 b6 b7 b8 b9 b10 b11 b12 b13++Cs))) w)(hok:bX st cs ts)(ho:fB 13 o)(hx:xs.length=iZ 13)(hi:∀ v∈xs,aI v)(hp:st.length+je 13<=32)(hcs:(13:Nat)=26->cs.length<=7)(hcr:(13:Nat)=27->0<cs.length)(hts:(13:Nat)=29->ts.length<=15)(ha:k.args.length<=4)(hai:∀ v∈k.args,aI v) :
  bG w ((jA b0 b1 b2 b3 b4 b5 b6 b7 b8 b9 b10 b11 b12 b13).getD 13 .nilFunc) #[ptr x,ew 13 o,lv] (aX w0 X (cI lv xs::(ch b0 b1 b2 b3 b4 b5 b6 b7 b8 b9 b10 b11 b12 b13++Cs)) x k f):=by
 obtain⟨a,b,rfl⟩:=kF hx
 have S1:=(ah.pull [_,_,_,_,_,_,_,_,_,_,_,_,_,_] hS).push [_,_,_,_,_,_]
 exact⟨_,_,rfl,fun _ _=>by kernel_rfl,(dJ and_two S1 hok hp 13 o (hi a (by simp)) (hi b (by simp))).mono fun e w' h=>h.perm ((List.perm_middle (l₁:=[_,_,_,_,_,_,_,_])).symm.cons _)⟩
theorem dov_14{b0 b1 b2 b3 b4 b5 b6 b7 b8 b9 b10 b11 b12 b13:Nat}{o:Int}(hS:ah w0 X (pC x k f st cs ts (cI lv xs::(ch b0 b1 b2 b3 b4 b5 b6 b7 b8 b9 b10 b11 b12 b13++Cs))) w)(hok:bX st cs ts)(ho:fB 14 o)(hx:xs.length=iZ 14)(hi:∀ v∈xs,aI v)(hp:st.length+je 14<=32)(hcs:(14:Nat)=26->cs.length<=7)(hcr:(14:Nat)=27->0<cs.length)(hts:(14:Nat)=29->ts.length<=15)(ha:k.args.length<=4)(hai:∀ v∈k.args,aI v) :
  bG w ((jA b0 b1 b2 b3 b4 b5 b6 b7 b8 b9 b10 b11 b12 b13).getD 14 .nilFunc) #[ptr x,ew 14 o,lv] (aX w0 X (cI lv xs::(ch b0 b1 b2 b3 b4 b5 b6 b7 b8 b9 b10 b11 b12 b13++Cs)) x k f):=by
 obtain⟨a,b,rfl⟩:=kF hx
 have S1:=(ah.pull [_,_,_,_,_,_,_,_,_,_,_,_,_] hS).push [_,_,_,_,_,_]
 exact⟨_,_,rfl,fun _ _=>by kernel_rfl,(dJ or_two S1 hok hp 14 o (hi a (by simp)) (hi b (by simp))).mono fun e w' h=>h.perm ((List.perm_middle (l₁:=[_,_,_,_,_,_,_])).symm.cons _)⟩
theorem dov_15{b0 b1 b2 b3 b4 b5 b6 b7 b8 b9 b10 b11 b12 b13:Nat}{o:Int}(hS:ah w0 X (pC x k f st cs ts (cI lv xs::(ch b0 b1 b2 b3 b4 b5 b6 b7 b8 b9 b10 b11 b12 b13++Cs))) w)(hok:bX st cs ts)(ho:fB 15 o)(hx:xs.length=iZ 15)(hi:∀ v∈xs,aI v)(hp:st.length+je 15<=32)(hcs:(15:Nat)=26->cs.length<=7)(hcr:(15:Nat)=27->0<cs.length)(hts:(15:Nat)=29->ts.length<=15)(ha:k.args.length<=4)(hai:∀ v∈k.args,aI v) :
  bG w ((jA b0 b1 b2 b3 b4 b5 b6 b7 b8 b9 b10 b11 b12 b13).getD 15 .nilFunc) #[ptr x,ew 15 o,lv] (aX w0 X (cI lv xs::(ch b0 b1 b2 b3 b4 b5 b6 b7 b8 b9 b10 b11 b12 b13++Cs)) x k f):=by
 obtain⟨a,b,rfl⟩:=kF hx
 have S1:=(ah.pull [_,_,_,_,_,_,_,_,_,_,_,_] hS).push [_,_,_,_,_,_]
 exact⟨_,_,rfl,fun _ _=>by kernel_rfl,(dJ xor_two S1 hok hp 15 o (hi a (by simp)) (hi b (by simp))).mono fun e w' h=>h.perm ((List.perm_middle (l₁:=[_,_,_,_,_,_])).symm.cons _)⟩
theorem dov_16{b0 b1 b2 b3 b4 b5 b6 b7 b8 b9 b10 b11 b12 b13:Nat}{o:Int}(hS:ah w0 X (pC x k f st cs ts (cI lv xs::(ch b0 b1 b2 b3 b4 b5 b6 b7 b8 b9 b10 b11 b12 b13++Cs))) w)(hok:bX st cs ts)(ho:fB 16 o)(hx:xs.length=iZ 16)(hi:∀ v∈xs,aI v)(hp:st.length+je 16<=32)(hcs:(16:Nat)=26->cs.length<=7)(hcr:(16:Nat)=27->0<cs.length)(hts:(16:Nat)=29->ts.length<=15)(ha:k.args.length<=4)(hai:∀ v∈k.args,aI v) :
  bG w ((jA b0 b1 b2 b3 b4 b5 b6 b7 b8 b9 b10 b11 b12 b13).getD 16 .nilFunc) #[ptr x,ew 16 o,lv] (aX w0 X (cI lv xs::(ch b0 b1 b2 b3 b4 b5 b6 b7 b8 b9 b10 b11 b12 b13++Cs)) x k f):=by
 obtain⟨a,rfl⟩:=len1 hx
 exact⟨_,_,rfl,fun _ _=>by kernel_rfl,AI hS hok hp 16 o⟩
theorem dov_17{b0 b1 b2 b3 b4 b5 b6 b7 b8 b9 b10 b11 b12 b13:Nat}{o:Int}(hS:ah w0 X (pC x k f st cs ts (cI lv xs::(ch b0 b1 b2 b3 b4 b5 b6 b7 b8 b9 b10 b11 b12 b13++Cs))) w)(hok:bX st cs ts)(ho:fB 17 o)(hx:xs.length=iZ 17)(hi:∀ v∈xs,aI v)(hp:st.length+je 17<=32)(hcs:(17:Nat)=26->cs.length<=7)(hcr:(17:Nat)=27->0<cs.length)(hts:(17:Nat)=29->ts.length<=15)(ha:k.args.length<=4)(hai:∀ v∈k.args,aI v) :
  bG w ((jA b0 b1 b2 b3 b4 b5 b6 b7 b8 b9 b10 b11 b12 b13).getD 17 .nilFunc) #[ptr x,ew 17 o,lv] (aX w0 X (cI lv xs::(ch b0 b1 b2 b3 b4 b5 b6 b7 b8 b9 b10 b11 b12 b13++Cs)) x k f):=by
 obtain⟨a,b,rfl⟩:=kF hx
 have S1:=(ah.pull [_,_,_,_,_,_,_,_,_,_,_] hS).push [_,_,_,_,_,_]
 exact⟨_,_,rfl,fun _ _=>by kernel_rfl,(dJ shl_two S1 hok hp 17 o (hi a (by simp)) (hi b (by simp))).mono fun e w' h=>h.perm ((List.perm_middle (l₁:=[_,_,_,_,_])).symm.cons _)⟩
theorem dov_18{b0 b1 b2 b3 b4 b5 b6 b7 b8 b9 b10 b11 b12 b13:Nat}{o:Int}(hS:ah w0 X (pC x k f st cs ts (cI lv xs::(ch b0 b1 b2 b3 b4 b5 b6 b7 b8 b9 b10 b11 b12 b13++Cs))) w)(hok:bX st cs ts)(ho:fB 18 o)(hx:xs.length=iZ 18)(hi:∀ v∈xs,aI v)(hp:st.length+je 18<=32)(hcs:(18:Nat)=26->cs.length<=7)(hcr:(18:Nat)=27->0<cs.length)(hts:(18:Nat)=29->ts.length<=15)(ha:k.args.length<=4)(hai:∀ v∈k.args,aI v) :
  bG w ((jA b0 b1 b2 b3 b4 b5 b6 b7 b8 b9 b10 b11 b12 b13).getD 18 .nilFunc) #[ptr x,ew 18 o,lv] (aX w0 X (cI lv xs::(ch b0 b1 b2 b3 b4 b5 b6 b7 b8 b9 b10 b11 b12 b13++Cs)) x k f):=by
 obtain⟨a,b,rfl⟩:=kF hx
 have S1:=(ah.pull [_,_,_,_,_,_,_,_,_,_] hS).push [_,_,_,_,_,_]
 exact⟨_,_,rfl,fun _ _=>by kernel_rfl,(dJ shr_two S1 hok hp 18 o (hi a (by simp)) (hi b (by simp))).mono fun e w' h=>h.perm ((List.perm_middle (l₁:=[_,_,_,_])).symm.cons _)⟩
theorem dov_19{b0 b1 b2 b3 b4 b5 b6 b7 b8 b9 b10 b11 b12 b13:Nat}{o:Int}(hS:ah w0 X (pC x k f st cs ts (cI lv xs::(ch b0 b1 b2 b3 b4 b5 b6 b7 b8 b9 b10 b11 b12 b13++Cs))) w)(hok:bX st cs ts)(ho:fB 19 o)(hx:xs.length=iZ 19)(hi:∀ v∈xs,aI v)(hp:st.length+je 19<=32)(hcs:(19:Nat)=26->cs.length<=7)(hcr:(19:Nat)=27->0<cs.length)(hts:(19:Nat)=29->ts.length<=15)(ha:k.args.length<=4)(hai:∀ v∈k.args,aI v) :
  bG w ((jA b0 b1 b2 b3 b4 b5 b6 b7 b8 b9 b10 b11 b12 b13).getD 19 .nilFunc) #[ptr x,ew 19 o,lv] (aX w0 X (cI lv xs::(ch b0 b1 b2 b3 b4 b5 b6 b7 b8 b9 b10 b11 b12 b13++Cs)) x k f):=by
 obtain⟨a,b,rfl⟩:=kF hx
 have S1:=(ah.pull [_,_,_,_,_,_,_,_,_] hS).push [_,_,_,_,_,_]
 exact⟨_,_,rfl,fun _ _=>by kernel_rfl,(dJ B7 S1 hok hp 19 o (hi a (by simp)) (hi b (by simp))).mono fun e w' h=>h.perm ((List.perm_middle (l₁:=[_,_,_])).symm.cons _)⟩
theorem dov_20{b0 b1 b2 b3 b4 b5 b6 b7 b8 b9 b10 b11 b12 b13:Nat}{o:Int}(hS:ah w0 X (pC x k f st cs ts (cI lv xs::(ch b0 b1 b2 b3 b4 b5 b6 b7 b8 b9 b10 b11 b12 b13++Cs))) w)(hok:bX st cs ts)(ho:fB 20 o)(hx:xs.length=iZ 20)(hi:∀ v∈xs,aI v)(hp:st.length+je 20<=32)(hcs:(20:Nat)=26->cs.length<=7)(hcr:(20:Nat)=27->0<cs.length)(hts:(20:Nat)=29->ts.length<=15)(ha:k.args.length<=4)(hai:∀ v∈k.args,aI v) :
  bG w ((jA b0 b1 b2 b3 b4 b5 b6 b7 b8 b9 b10 b11 b12 b13).getD 20 .nilFunc) #[ptr x,ew 20 o,lv] (aX w0 X (cI lv xs::(ch b0 b1 b2 b3 b4 b5 b6 b7 b8 b9 b10 b11 b12 b13++Cs)) x k f):=by
 obtain⟨a,b,rfl⟩:=kF hx
 have S1:=(ah.pull [_,_,_,_,_,_,_,_] hS).push [_,_,_,_,_,_]
 exact⟨_,_,rfl,fun _ _=>by kernel_rfl,(dJ eq_two S1 hok hp 20 o (hi a (by simp)) (hi b (by simp))).mono fun e w' h=>h.perm ((List.perm_middle (l₁:=[_,_])).symm.cons _)⟩
theorem dov_21{b0 b1 b2 b3 b4 b5 b6 b7 b8 b9 b10 b11 b12 b13:Nat}{o:Int}(hS:ah w0 X (pC x k f st cs ts (cI lv xs::(ch b0 b1 b2 b3 b4 b5 b6 b7 b8 b9 b10 b11 b12 b13++Cs))) w)(hok:bX st cs ts)(ho:fB 21 o)(hx:xs.length=iZ 21)(hi:∀ v∈xs,aI v)(hp:st.length+je 21<=32)(hcs:(21:Nat)=26->cs.length<=7)(hcr:(21:Nat)=27->0<cs.length)(hts:(21:Nat)=29->ts.length<=15)(ha:k.args.length<=4)(hai:∀ v∈k.args,aI v) :
  bG w ((jA b0 b1 b2 b3 b4 b5 b6 b7 b8 b9 b10 b11 b12 b13).getD 21 .nilFunc) #[ptr x,ew 21 o,lv] (aX w0 X (cI lv xs::(ch b0 b1 b2 b3 b4 b5 b6 b7 b8 b9 b10 b11 b12 b13++Cs)) x k f):=by
 obtain⟨a,b,rfl⟩:=kF hx
 have S1:=(ah.pull [_,_,_,_,_,_,_] hS).push [_,_,_,_,_,_]
 exact⟨_,_,rfl,fun _ _=>by kernel_rfl,(dJ lt_two S1 hok hp 21 o (hi a (by simp)) (hi b (by simp))).mono fun e w' h=>h.perm ((List.perm_middle (l₁:=[_])).symm.cons _)⟩
theorem dov_22{b0 b1 b2 b3 b4 b5 b6 b7 b8 b9 b10 b11 b12 b13:Nat}{o:Int}(hS:ah w0 X (pC x k f st cs ts (cI lv xs::(ch b0 b1 b2 b3 b4 b5 b6 b7 b8 b9 b10 b11 b12 b13++Cs))) w)(hok:bX st cs ts)(ho:fB 22 o)(hx:xs.length=iZ 22)(hi:∀ v∈xs,aI v)(hp:st.length+je 22<=32)(hcs:(22:Nat)=26->cs.length<=7)(hcr:(22:Nat)=27->0<cs.length)(hts:(22:Nat)=29->ts.length<=15)(ha:k.args.length<=4)(hai:∀ v∈k.args,aI v) :
  bG w ((jA b0 b1 b2 b3 b4 b5 b6 b7 b8 b9 b10 b11 b12 b13).getD 22 .nilFunc) #[ptr x,ew 22 o,lv] (aX w0 X (cI lv xs::(ch b0 b1 b2 b3 b4 b5 b6 b7 b8 b9 b10 b11 b12 b13++Cs)) x k f):=by
 obtain⟨a,b,rfl⟩:=kF hx
 have S1:=(ah.pull [_,_,_,_,_,_] hS).push [_,_,_,_,_,_]
 exact⟨_,_,rfl,fun _ _=>by kernel_rfl,(dJ ult_two S1 hok hp 22 o (hi a (by simp)) (hi b (by simp))).mono fun e w' h=>h.perm ((List.perm_middle (l₁:=[])).symm.cons _)⟩
theorem dov_23{b0 b1 b2 b3 b4 b5 b6 b7 b8 b9 b10 b11 b12 b13:Nat}{o:Int}(hS:ah w0 X (pC x k f st cs ts (cI lv xs::(ch b0 b1 b2 b3 b4 b5 b6 b7 b8 b9 b10 b11 b12 b13++Cs))) w)(hok:bX st cs ts)(ho:fB 23 o)(hx:xs.length=iZ 23)(hi:∀ v∈xs,aI v)(hp:st.length+je 23<=32)(hcs:(23:Nat)=26->cs.length<=7)(hcr:(23:Nat)=27->0<cs.length)(hts:(23:Nat)=29->ts.length<=15)(ha:k.args.length<=4)(hai:∀ v∈k.args,aI v) :
  bG w ((jA b0 b1 b2 b3 b4 b5 b6 b7 b8 b9 b10 b11 b12 b13).getD 23 .nilFunc) #[ptr x,ew 23 o,lv] (aX w0 X (cI lv xs::(ch b0 b1 b2 b3 b4 b5 b6 b7 b8 b9 b10 b11 b12 b13++Cs)) x k f):=by
 obtain⟨a,rfl⟩:=len1 hx
 exact⟨_,_,rfl,fun _ _=>by kernel_rfl,yB hS hok hp 23 o⟩
theorem dov_24{b0 b1 b2 b3 b4 b5 b6 b7 b8 b9 b10 b11 b12 b13:Nat}{o:Int}(hS:ah w0 X (pC x k f st cs ts (cI lv xs::(ch b0 b1 b2 b3 b4 b5 b6 b7 b8 b9 b10 b11 b12 b13++Cs))) w)(hok:bX st cs ts)(ho:fB 24 o)(hx:xs.length=iZ 24)(hi:∀ v∈xs,aI v)(hp:st.length+je 24<=32)(hcs:(24:Nat)=26->cs.length<=7)(hcr:(24:Nat)=27->0<cs.length)(hts:(24:Nat)=29->ts.length<=15)(ha:k.args.length<=4)(hai:∀ v∈k.args,aI v) :
  bG w ((jA b0 b1 b2 b3 b4 b5 b6 b7 b8 b9 b10 b11 b12 b13).getD 24 .nilFunc) #[ptr x,ew 24 o,lv] (aX w0 X (cI lv xs::(ch b0 b1 b2 b3 b4 b5 b6 b7 b8 b9 b10 b11 b12 b13++Cs)) x k f):=by
 exact⟨_,_,rfl,fun _ _=>by kernel_rfl,yg hS hok 24 o⟩
theorem dov_25{b0 b1 b2 b3 b4 b5 b6 b7 b8 b9 b10 b11 b12 b13:Nat}{o:Int}(hS:ah w0 X (pC x k f st cs ts (cI lv xs::(ch b0 b1 b2 b3 b4 b5 b6 b7 b8 b9 b10 b11 b12 b13++Cs))) w)(hok:bX st cs ts)(ho:fB 25 o)(hx:xs.length=iZ 25)(hi:∀ v∈xs,aI v)(hp:st.length+je 25<=32)(hcs:(25:Nat)=26->cs.length<=7)(hcr:(25:Nat)=27->0<cs.length)(hts:(25:Nat)=29->ts.length<=15)(ha:k.args.length<=4)(hai:∀ v∈k.args,aI v) :
  bG w ((jA b0 b1 b2 b3 b4 b5 b6 b7 b8 b9 b10 b11 b12 b13).getD 25 .nilFunc) #[ptr x,ew 25 o,lv] (aX w0 X (cI lv xs::(ch b0 b1 b2 b3 b4 b5 b6 b7 b8 b9 b10 b11 b12 b13++Cs)) x k f):=by
 obtain⟨a,rfl⟩:=len1 hx
 exact⟨_,_,rfl,fun _ _=>by kernel_rfl,vI hS hok 25 o⟩
theorem dov_26{b0 b1 b2 b3 b4 b5 b6 b7 b8 b9 b10 b11 b12 b13:Nat}{o:Int}(hS:ah w0 X (pC x k f st cs ts (cI lv xs::(ch b0 b1 b2 b3 b4 b5 b6 b7 b8 b9 b10 b11 b12 b13++Cs))) w)(hok:bX st cs ts)(ho:fB 26 o)(hx:xs.length=iZ 26)(hi:∀ v∈xs,aI v)(hp:st.length+je 26<=32)(hcs:(26:Nat)=26->cs.length<=7)(hcr:(26:Nat)=27->0<cs.length)(hts:(26:Nat)=29->ts.length<=15)(ha:k.args.length<=4)(hai:∀ v∈k.args,aI v) :
  bG w ((jA b0 b1 b2 b3 b4 b5 b6 b7 b8 b9 b10 b11 b12 b13).getD 26 .nilFunc) #[ptr x,ew 26 o,lv] (aX w0 X (cI lv xs::(ch b0 b1 b2 b3 b4 b5 b6 b7 b8 b9 b10 b11 b12 b13++Cs)) x k f):=by
 exact⟨_,_,rfl,fun _ _=>by kernel_rfl,yF hS hok (hcs rfl) 26 o⟩
theorem dov_27{b0 b1 b2 b3 b4 b5 b6 b7 b8 b9 b10 b11 b12 b13:Nat}{o:Int}(hS:ah w0 X (pC x k f st cs ts (cI lv xs::(ch b0 b1 b2 b3 b4 b5 b6 b7 b8 b9 b10 b11 b12 b13++Cs))) w)(hok:bX st cs ts)(ho:fB 27 o)(hx:xs.length=iZ 27)(hi:∀ v∈xs,aI v)(hp:st.length+je 27<=32)(hcs:(27:Nat)=26->cs.length<=7)(hcr:(27:Nat)=27->0<cs.length)(hts:(27:Nat)=29->ts.length<=15)(ha:k.args.length<=4)(hai:∀ v∈k.args,aI v) :
  bG w ((jA b0 b1 b2 b3 b4 b5 b6 b7 b8 b9 b10 b11 b12 b13).getD 27 .nilFunc) #[ptr x,ew 27 o,lv] (aX w0 X (cI lv xs::(ch b0 b1 b2 b3 b4 b5 b6 b7 b8 b9 b10 b11 b12 b13++Cs)) x k f):=by
 exact⟨_,_,rfl,fun _ _=>by kernel_rfl,Ay hS hok (hcr rfl) 27 o⟩
theorem dov_28{b0 b1 b2 b3 b4 b5 b6 b7 b8 b9 b10 b11 b12 b13:Nat}{o:Int}(hS:ah w0 X (pC x k f st cs ts (cI lv xs::(ch b0 b1 b2 b3 b4 b5 b6 b7 b8 b9 b10 b11 b12 b13++Cs))) w)(hok:bX st cs ts)(ho:fB 28 o)(hx:xs.length=iZ 28)(hi:∀ v∈xs,aI v)(hp:st.length+je 28<=32)(hcs:(28:Nat)=26->cs.length<=7)(hcr:(28:Nat)=27->0<cs.length)(hts:(28:Nat)=29->ts.length<=15)(ha:k.args.length<=4)(hai:∀ v∈k.args,aI v) :
  bG w ((jA b0 b1 b2 b3 b4 b5 b6 b7 b8 b9 b10 b11 b12 b13).getD 28 .nilFunc) #[ptr x,ew 28 o,lv] (aX w0 X (cI lv xs::(ch b0 b1 b2 b3 b4 b5 b6 b7 b8 b9 b10 b11 b12 b13++Cs)) x k f):=by
 exact⟨_,_,rfl,fun _ _=>by kernel_rfl,wJ hS hok hp 28 o (ho.small (.inl rfl)) ha hai⟩
theorem dov_29{b0 b1 b2 b3 b4 b5 b6 b7 b8 b9 b10 b11 b12 b13:Nat}{o:Int}(hS:ah w0 X (pC x k f st cs ts (cI lv xs::(ch b0 b1 b2 b3 b4 b5 b6 b7 b8 b9 b10 b11 b12 b13++Cs))) w)(hok:bX st cs ts)(ho:fB 29 o)(hx:xs.length=iZ 29)(hi:∀ v∈xs,aI v)(hp:st.length+je 29<=32)(hcs:(29:Nat)=26->cs.length<=7)(hcr:(29:Nat)=27->0<cs.length)(hts:(29:Nat)=29->ts.length<=15)(ha:k.args.length<=4)(hai:∀ v∈k.args,aI v) :
  bG w ((jA b0 b1 b2 b3 b4 b5 b6 b7 b8 b9 b10 b11 b12 b13).getD 29 .nilFunc) #[ptr x,ew 29 o,lv] (aX w0 X (cI lv xs::(ch b0 b1 b2 b3 b4 b5 b6 b7 b8 b9 b10 b11 b12 b13++Cs)) x k f):=by
 obtain⟨a,rfl⟩:=len1 hx
 exact⟨_,_,rfl,fun _ _=>by kernel_rfl,xu hS hok (hts rfl) 29 o⟩
theorem Bc{b0 b1 b2 b3 b4 b5 b6 b7 b8 b9 b10 b11 b12 b13:Nat}{o:Int}(c:Nat)(h0:1<=c)(h1:c<=29)(hS:ah w0 X (pC x k f st cs ts (cI lv xs::(ch b0 b1 b2 b3 b4 b5 b6 b7 b8 b9 b10 b11 b12 b13++Cs))) w)(hok:bX st cs ts)(ho:fB c o)(hx:xs.length=iZ c)(hi:∀ v∈xs,aI v)(hp:st.length+je c<=32)(hcs:c=26->cs.length<=7)(hcr:c=27->0<cs.length)(hts:c=29->ts.length<=15)(ha:k.args.length<=4)(hai:∀ v∈k.args,aI v) :
  bG w ((jA b0 b1 b2 b3 b4 b5 b6 b7 b8 b9 b10 b11 b12 b13).getD c .nilFunc) #[ptr x,ew c o,lv] (aX w0 X (cI lv xs::(ch b0 b1 b2 b3 b4 b5 b6 b7 b8 b9 b10 b11 b12 b13++Cs)) x k f):=by
 match c,h0,h1 with
 | 1,_,_=>exact dov_1 hS hok ho hx hi hp hcs hcr hts ha hai
 | 2,_,_=>exact dov_2 hS hok ho hx hi hp hcs hcr hts ha hai
 | 3,_,_=>exact dov_3 hS hok ho hx hi hp hcs hcr hts ha hai
 | 4,_,_=>exact dov_4 hS hok ho hx hi hp hcs hcr hts ha hai
 | 5,_,_=>exact dov_5 hS hok ho hx hi hp hcs hcr hts ha hai
 | 6,_,_=>exact dov_6 hS hok ho hx hi hp hcs hcr hts ha hai
 | 7,_,_=>exact dov_7 hS hok ho hx hi hp hcs hcr hts ha hai
 | 8,_,_=>exact dov_8 hS hok ho hx hi hp hcs hcr hts ha hai
 | 9,_,_=>exact dov_9 hS hok ho hx hi hp hcs hcr hts ha hai
 | 10,_,_=>exact dov_10 hS hok ho hx hi hp hcs hcr hts ha hai
 | 11,_,_=>exact dov_11 hS hok ho hx hi hp hcs hcr hts ha hai
 | 12,_,_=>exact dov_12 hS hok ho hx hi hp hcs hcr hts ha hai
 | 13,_,_=>exact dov_13 hS hok ho hx hi hp hcs hcr hts ha hai
 | 14,_,_=>exact dov_14 hS hok ho hx hi hp hcs hcr hts ha hai
 | 15,_,_=>exact dov_15 hS hok ho hx hi hp hcs hcr hts ha hai
 | 16,_,_=>exact dov_16 hS hok ho hx hi hp hcs hcr hts ha hai
 | 17,_,_=>exact dov_17 hS hok ho hx hi hp hcs hcr hts ha hai
 | 18,_,_=>exact dov_18 hS hok ho hx hi hp hcs hcr hts ha hai
 | 19,_,_=>exact dov_19 hS hok ho hx hi hp hcs hcr hts ha hai
 | 20,_,_=>exact dov_20 hS hok ho hx hi hp hcs hcr hts ha hai
 | 21,_,_=>exact dov_21 hS hok ho hx hi hp hcs hcr hts ha hai
 | 22,_,_=>exact dov_22 hS hok ho hx hi hp hcs hcr hts ha hai
 | 23,_,_=>exact dov_23 hS hok ho hx hi hp hcs hcr hts ha hai
 | 24,_,_=>exact dov_24 hS hok ho hx hi hp hcs hcr hts ha hai
 | 25,_,_=>exact dov_25 hS hok ho hx hi hp hcs hcr hts ha hai
 | 26,_,_=>exact dov_26 hS hok ho hx hi hp hcs hcr hts ha hai
 | 27,_,_=>exact dov_27 hS hok ho hx hi hp hcs hcr hts ha hai
 | 28,_,_=>exact dov_28 hS hok ho hx hi hp hcs hcr hts ha hai
 | 29,_,_=>exact dov_29 hS hok ho hx hi hp hcs hcr hts ha hai
 | 0,h,_=>omega
 | n+30,_,h=>omega
end
section
variable {w0:World}{X:List Nat}{Cs:List aw}{w:World}{x:Nat}{k:cl}{f:PF}{st:List Int}
theorem vc{a:Array Value}{sl:Nat}{xs:List Int}(h:Calls Tryz.prog 67 a w (zT w0 X Cs x k f st sl))(hv:st.drop sl=xs) :
  Calls Tryz.prog 67 a w (fun e w'=>∃ lv sv',e=.returned lv/\ah w0 X (cI lv xs::ag x (bm k {f with sv:=sv' })::cI sv' (st.take sl)::Cs) w'):=by
 subst hv
 exact h
theorem AH{lv:Value}{v:Int}(h:ah w0 X (cI lv [v]::Cs) w):∃ g cap,lv=.slice (some ⟨g,0,none⟩) 1 cap/\1<=cap/\cap<=maxLen/\g<w.heap.size/\w.cell? ⟨g,0,none⟩=some (.int .i64 v):=by
 have hr:aD w 2 1 lv [v].length (bz [v]):=h.h0
 rcases hr.parts with⟨-,q2,-⟩|⟨g,cap,h1,h2,h3,h4,h5⟩
 ·simp at q2
 ·exact⟨g,cap,h1,h2,h3,h4,h5 0 _ (by simp[bz])⟩
theorem An{lv:Value}{v v2:Int}(h:ah w0 X (cI lv [v,v2]::Cs) w):∃ g cap,lv=.slice (some ⟨g,0,none⟩) 2 cap/\2<=cap/\cap<=maxLen/\g<w.heap.size/\w.cell? ⟨g,0,none⟩=some (.int .i64 v)/\w.cell? ⟨g,1,none⟩=some (.int .i64 v2):=by
 have hr:aD w 2 1 lv [v,v2].length (bz [v,v2]):=h.h0
 rcases hr.parts with⟨-,q2,-⟩|⟨g,cap,h1,h2,h3,h4,h5⟩
 ·simp at q2
 ·exact⟨g,cap,h1,h2,h3,h4,h5 0 _ (by simp[bz]),h5 1 _ (by simp[bz])⟩
end
end Go.Proofs.YtgfogfciobmmpaaGreatDoor
