/- The law TopWhy: whatever the input of bulk at most 1048576, it returns true, and each argument reads behind the call as it read before. Its condition: the table of shapes holds what the program's text lays into it (tied). -/
import Derived.Test.YtgfogfciobmmpaaGreatDoorBBn
import Derived.BigQuiet
import Derived.Deep.CutRange
import Derived.Test.YtgfogfciobmmpaaGreatDoorCards
import Derived.Test.YtgfogfciobmmpaaGreatDoorTie
import Derived.ProofKit
import Derived.LaidMore
import Derived.OpenShut
import Derived.SizedLaws
import Derived.Deep.DeepHandedRow
import Derived.SevenTiedAt
set_option linter.unusedSimpArgs false
set_option linter.unusedVariables false
set_option maxRecDepth 100000
set_option maxHeartbeats 8000000
namespace Go.Proofs.YtgfogfciobmmpaaGreatDoor
open Go.RowKit
theorem AS{a b:List Int}(h:∀ j,j<8->bits .and .u64 (a.getD j 0) (b.getD j 0)=0):ij a b=false:=by
 unfold ij
 rw[Bool.eq_false_iff]
 intro h2
 obtain⟨j,hj,h3⟩:=List.any_eq_true.1 h2
 exact of_decide_eq_true h3 (h j (by simpa using hj))
theorem AR{a b:List Int}{j:Nat}(hj:j<8)(h:bits .and .u64 (a.getD j 0) (b.getD j 0)≠0):ij a b=true:=by
 unfold ij
 rw[List.any_eq_true]
 exact⟨j,by simpa using hj,by simpa using h⟩
theorem ck.drewN{w:World}{g:Nat}{cs:Array Value}(h:ck w g cs)(n:Nat):ck (w.drewN n) g cs:=⟨h.at_,h.len⟩
theorem tt(a b:List Int)(ha:aU a)(hb:aU b)(w:World):Calls Tryz.prog 28 #[dR a,dR b] w (dd (.bool (ij a b)) w):=by
 have HA:=kH (fun j (h:j<8)=>mI ha h)
 have HB:=kH (fun j (h:j<8)=>mI hb h)
 have HN:=kH (AS (a:=a) (b:=b))
 have HS:=kH (fun(j:Nat) (h:j<8)=>AR (a:=a) (b:=b) h)
 have la:=(dp ha.1).len
 have lb:=(dp hb.1).len
 clear ha hb
 unfold dR
 generalize bH a=A at *
 generalize bH b=B at *
 go_enter Tryz.func28,Tryz.ntmps28
 go_wp2
 have i2:ck ((w.alloc (.cells A 42 (0,0))).alloc (.cells B 42 (0,0))) w.heap.size A:=⟨bS (ar rfl),la⟩
 have i3:ck ((w.alloc (.cells A 42 (0,0))).alloc (.cells B 42 (0,0))) (w.heap.size+1) B:=⟨ar (by simp),lb⟩
 have hbel:=bA (ai w (.cells A 42 (0,0))) (.cells B 42 (0,0))
 generalize (w.alloc (.cells A 42 (0,0))).alloc (.cells B 42 (0,0))=W1 at *
 go_loopg[5] 9 (fun n v5 wr=>∃ j:Nat,j<=8/\v5=.int .i64 j/\n+j=9/\(∀ t,t<j->bits .and .u64 (a.getD t 0) (b.getD t 0)=0)/\ck wr w.heap.size A/\ck wr (w.heap.size+1) B/\Below w.heap.size w wr)
 case atStart=>exact⟨0,Nat.zero_le _,rfl,rfl,fun t h=>absurd h (Nat.not_lt_zero _),i2,i3,hbel⟩
 case round =>
  clear i2 i3 hbel
  obtain⟨j,hj,rfl,hn,hz,i2,i3,hbel⟩:=hrel
  have HM:=kH hn
  have HZ:=kH hz
  have HI:=kH (And.intro i2 (And.intro i3 hbel))
  clear hn hz hbel
  by_cases hlt:j<8
  ·have hlt':(j:Int)<8:=by omega
   have c2:=cell_of_row wr w.heap.size j _ _ _ i2.at_
   have c3:=cell_of_row wr (w.heap.size+1) j _ _ _ i3.at_
   rw[HA.out j hlt]at c2
   rw[HB.out j hlt]at c3
   have HS1:=kH (HS.out j hlt)
   have HZ1:Hid (bits .and .u64 (a.getD j 0) (b.getD j 0)=0->∀ t,t<j+1->bits .and .u64 (a.getD t 0) (b.getD t 0)=0):=fun h t ht=>by
    rcases Nat.lt_succ_iff_lt_or_eq.1 ht with h1|rfl
    ·exact HZ.out t h1
    ·exact h
   generalize a.getD j 0=x at *
   generalize b.getD j 0=y at *
   clear i2 i3 HS
   by_cases hb0:bits .and .u64 x y=0
   ·go_upto_region 4 with(fail)
    go_quiet(fail)
    go_wp2
    go_roundg (8-j)
    case measure=>have:=HM.out;omega
    case rel=>exact⟨j+1,by omega,by go_num,by have:=HM.out;omega,HZ1.out hb0,HI.out.1.drewN _,HI.out.2.1.drewN _,HI.out.2.2.trans ((dn _ _).mono HI.out.2.2.size)⟩
   ·have HE:=kH (HS1.out hb0)
    rw[HE.out]
    go_upto_region 4 with(fail)
    go_quiet(fail)
    go_wp2
    go_ret
    exact⟨rfl,HI.out.2.2.trans ((dn _ _).mono HI.out.2.2.size)⟩
  ·obtain rfl:j=8:=by omega
   have HE:=kH (HN.out HZ.out)
   go_wp2
   go_ret
   exact⟨by rw[HE.out];rfl,HI.out.2.2⟩
section
variable {w0:World}{X:List Nat}{Cs:List aw}{w:World}
structure WhyN(x:dh)(A A':List dh)(y:dh):Prop where
 pub:lK A'=if y.e.kind=4 then y.e.stamp else lK A
 met:kD x.e A'=if y.e.kind=4 then(kD x.e A||(decide (y.e.stamp>x.e.start)&&ij y.e.sig x.e.sig))else kD x.e A
 reads:aV (bh x.tx A')=if y.tx=x.tx/\y.e.kind=2/\y.e.own=false then be (aV (bh x.tx A)) y.e.cell else aV (bh x.tx A)
 cells:cellsOf (bh x.tx A')=if y.tx=x.tx/\y.e.kind=3/\y.e.cell∉cellsOf (bh x.tx A)then cellsOf (bh x.tx A)++[y.e.cell]else cellsOf (bh x.tx A)
theorem whyN(x:dh)(A:List dh)(y:dh):WhyN x A (A++[y]) y:=by
 refine⟨vb A y,vw x.e A y,?_,?_⟩
 ·rw[jh]
  by_cases ht:y.tx=x.tx
  ·have e:bh x.tx [y]=[y.e]:=by simp[bh,ht]
   rw[e,eP]
   unfold jK
   by_cases h2:y.e.kind=2<;>cases h3:y.e.own<;>simp[ht,h2]
  ·have e:bh x.tx [y]=[]:=by simp[bh,ht]
   rw[e,List.append_nil,if_neg (fun h=>ht h.1)]
 ·rw[jh]
  by_cases ht:y.tx=x.tx
  ·have e:bh x.tx [y]=[y.e]:=by simp[bh,ht]
   rw[e,eW]
   unfold eg
   by_cases h2:y.e.kind=3<;>simp[ht,h2]
  ·have e:bh x.tx [y]=[]:=by simp[bh,ht]
   rw[e,List.append_nil,if_neg (fun h=>ht h.1)]
attribute [local go_sem] ip
attribute [local go_sem ↓] oA qg jJ iL
attribute [local go_sem] mh oY oT iN mW gI
theorem Ae(s:cQ)(H:List dh)(hv:Value)(i:Nat)(x:dh)(hS:ah w0 X (bW hv H::Cs) w)(hx:H[i]?=some x)(hn:H.length<=1000000000)(hF:WhyF ⟨s.c.ring,s.c.writes,s.c.stamps,s.c.multi⟩ (H.take i) x)(hc:1<=s.c.ring/\s.c.ring<=16) :
  Calls Tryz.prog 14 #[s.val,hv,.int .i64 i] w (fun e w'=>e=.returned (.bool true)/\ah w0 X (bW hv H::Cs) w'):=by
 obtain⟨c,rv,rs,pv,progs,tv,tl⟩:=s
 unfold cQ.val at *
 dsimp only at hF hc ⊢
 have hi:=(List.getElem?_eq_some_iff.1 hx).1
 have hrow:aD w 44 19 hv H.length (aL H):=hS.h0
 rcases hrow.parts with⟨-,h2,-⟩|⟨g,cap,rfl,hnc,hcm,hg,hcell⟩
 ·omega
 have HS:=kH hS
 have HF:=kH hF
 have HX:=kH hx
 obtain⟨n,hnl⟩:∃ n,H.length=n:=⟨_,rfl⟩
 have HNL:=kH hnl
 rw[hnl]at hn hi hnc hrow ⊢
 have hiI:(i:Int)<(n:Int):=by omega
 have hecs:EvCs (fO x):=⟨rfl,lA _⟩
 obtain⟨ex,hex⟩:∃ e,fO x=e:=⟨_,rfl⟩
 have HEX:=kH hex
 rw[hex]at hecs
 have hcI:(n:Int)<=(cap:Int):=by omega
 clear hS hx hF hcell hnl hrow hex hg
 go_enter Tryz.func14,Tryz.ntmps14
 go_upto_region 1 with(fail)
 have HS1:=kH (HS.out.new (.cells #[.int .i64 c.raw,.int .i64 c.ring,.int .i64 c.writes,.int .i64 c.stamps,.bool c.multi,.int .i64 c.tries,rv,pv,tv] 28 (0,0)))
 generalize w.alloc _=W1 at *
 generalize w.heap.size=b3 at *
 have hcell:∀ j u,(aL H)[j]?=some u->W1.cell? ⟨g,j,none⟩=some u:=by
  rcases(show aD W1 44 19 (.slice (some ⟨g,0,none⟩) H.length cap) H.length (aL H)from HS1.out.h1).parts with⟨h,-⟩|⟨g2,cap2,h,-,-,-,hc⟩
  ·exact nomatch h
  ·injection h with h1 h2 h3
   injection h1 with h1
   injection h1 with h1
   subst h1
   exact hc
 have hev:zX W1 g (i*19) ex:=⟨fun j u hu=>hcell _ u (lB H i j x u HX.out (by rw[HEX.out];exact hu)),by rw[<-HEX.out];rfl⟩
 clear hcell
 go_upto_region 2 with(fail)
 have HS2:=kH (HS1.out.new (.cells ex.toArray 44 (0,0)))
 clear hev HS1
 generalize W1.alloc _=W2 at *
 generalize W1.heap.size=b7 at *
 go_upto_region 6 with(fail)
 have HS3:=kH ((HS2.out.new (.cells (bH bQ) 42 (0,0))).nilRow 3 1)
 rw[fE]at HS3
 clear HS2
 generalize W2.alloc _=W3 at *
 generalize W2.heap.size=b11 at *
 go_wp2
 go_loopg[8,9,10,12] (i+1) (fun m v8 v9 v10 v12 wr=>∃ k:Nat,k<=i/\v8=.int .i64 (lK (H.take k))/\v9=.bool (kD x.e (H.take k))/\v12=.int .i64 k/\m+k=i+1 /\
  ah w0 X (aN 3 1 v10 (cellsOf (bh x.tx (H.take k))).length (bz (cellsOf (bh x.tx (H.take k))))::ag b11 (.cells (bH (aV (bh x.tx (H.take k)))) 42 (0,0))::ag b7 (.cells ex.toArray 44 (0,0))::ag b3 (.cells #[.int .i64 c.raw,.int .i64 c.ring,.int .i64 c.writes,.int .i64 c.stamps,.bool c.multi,.int .i64 c.tries,rv,pv,tv] 28 (0,0))::bW (.slice (some ⟨g,0,none⟩) n cap) H::Cs) wr)
 case atStart=>exact⟨0,Nat.zero_le _,rfl,rfl,rfl,rfl,by rw[<-HNL.out];exact HS3.out⟩
 case round =>
  obtain⟨k,hk,rfl,rfl,rfl,hm,hS⟩:=hrel
  have HM:=kH hm
  have HS:=kH hS
  have hkI:(k:Int)<=(i:Int):=by omega
  clear HS3 hm hS
  by_cases hlt:k<i
  ·obtain⟨y,hy⟩:∃ y,H[k]?=some y:=⟨H[k]'(by have:=HNL.out;omega),List.getElem?_eq_getElem _⟩
   have HNX:Hid (WhyN x (H.take k) (H.take (k+1)) y):=by
    have e:H.take (k+1)=H.take k++[y]:=by
     rw[List.take_add_one,hy]
     rfl
    rw[e]
    exact whyN x _ y
   have HOKR:=kH (lY (bh x.tx (H.take k)))
   have HCL:Hid ((cellsOf (bh x.tx (H.take k))).length<=1000000000):=by
    show(cellsOf (bh x.tx (H.take k))).length<=1000000000
    have h1:=wD (bh x.tx (H.take k))
    have h2:=Ca x.tx (H.take k)
    rw[List.length_take]at h2
    omega
   obtain⟨P0,hP0⟩:∃ z,lK (H.take k)=z:=⟨_,rfl⟩
   obtain⟨M0,hM0⟩:∃ z,kD x.e (H.take k)=z:=⟨_,rfl⟩
   obtain⟨R0,hR0⟩:∃ z,aV (bh x.tx (H.take k))=z:=⟨_,rfl⟩
   obtain⟨C0,hC0⟩:∃ z,cellsOf (bh x.tx (H.take k))=z:=⟨_,rfl⟩
   rw[hP0,hM0]
   rw[hR0,hC0]at HS
   rw[hR0]at HOKR
   rw[hC0]at HCL
   have HNN:=kH (And.intro hP0 (And.intro hM0 (And.intro hR0 hC0)))
   have HSG:Hid (y.e.kind=4->aU y.e.sig):=fun h4=>HF.out.pubs y (List.mem_of_getElem? (i:=k) (by rw[List.getElem?_take,if_pos hlt];exact hy)) h4
   clear hP0 hM0 hR0 hC0
   have hkn:(k:Int)<(n:Int):=by omega
   have hev:zX wr g (k*19) (fO y):=by
    rcases(show aD wr 44 19 (.slice (some ⟨g,0,none⟩) n cap) H.length (aL H)from by rw[<-HNL.out]at HS ⊢;exact HS.out.holds (c:=bW (.slice (some ⟨g,0,none⟩) H.length cap) H) (List.mem_cons_of_mem _ (List.mem_cons_of_mem _ (List.mem_cons_of_mem _ (List.mem_cons_of_mem _ List.mem_cons_self))))).parts with⟨h,-⟩|⟨g2,cap2,h,-,-,-,hc⟩
    ·exact nomatch h
    ·injection h with h1 h2 h3
     injection h1 with h1
     injection h1 with h1
     subst h1
     exact⟨fun j u hu=>hc _ u (lB H k j y u hy hu),rfl⟩
   have hecsy:EvCs (fO y):=⟨rfl,lA _⟩
   have HQ:=kH (show(fO y)[2]?=some (.int .i64 y.tx)/\(fO y)[3]?=some (.int .i64 y.e.kind)/\(fO y)[4]?=some (.int .i64 y.e.cell)/\(fO y)[6]?=some (.bool y.e.own)/\(fO y)[9]?=some (.int .i64 y.e.stamp)from⟨rfl,rfl,rfl,rfl,rfl⟩)
   have HXQ:=kH (show ex[2]?=some (.int .i64 x.tx)/\ex[7]?=some (.int .i64 x.e.start)from by rw[<-HEX.out];exact⟨rfl,rfl⟩)
   obtain⟨ey,hey⟩:∃ e,fO y=e:=⟨_,rfl⟩
   have HEY:=kH hey
   rw[hey]at hev hecsy HQ
   clear hey
   go_upto_region 10 with(fail)
   have hSa:=HS.out.new (.cells ey.toArray 44 (0,0))
   have HSa:=kH hSa
   clear hev hecsy HS
   generalize wr.alloc _=W5 at *
   generalize wr.heap.size=b13 at *
   have y2:=hSa.cell 2
   have y3:=hSa.cell 3
   have y4:=hSa.cell 4
   have y6:=hSa.cell 6
   have y9:=hSa.cell 9
   have hx7:W5.heap[b7]?=some (.cells ex.toArray 44 (0,0)):=hSa.h3
   have x2:=cell_of_row W5 b7 2 _ _ _ hx7
   have x7:=cell_of_row W5 b7 7 _ _ _ hx7
   simp only[gA,HQ.out.1,HQ.out.2.1,HQ.out.2.2.1,HQ.out.2.2.2.1,HQ.out.2.2.2.2,HXQ.out.1,HXQ.out.2]at y2 y3 y4 y6 y9 x2 x7
   clear hSa hx7 hy
   obtain⟨kd,hkd⟩:∃ z,y.e.kind=z:=⟨_,rfl⟩
   obtain⟨st,hst⟩:∃ z,y.e.stamp=z:=⟨_,rfl⟩
   obtain⟨sx,hsx⟩:∃ z,x.e.start=z:=⟨_,rfl⟩
   obtain⟨ty,hty⟩:∃ z,y.tx=z:=⟨_,rfl⟩
   obtain⟨tx,htx⟩:∃ z,x.tx=z:=⟨_,rfl⟩
   obtain⟨cy,hcy⟩:∃ z,y.e.cell=z:=⟨_,rfl⟩
   obtain⟨ow,how⟩:∃ z,y.e.own=z:=⟨_,rfl⟩
   obtain⟨mt,hmt⟩:∃ z,ij y.e.sig x.e.sig=z:=⟨_,rfl⟩
   have HP':Hid (lK (H.take (k+1))=if kd=4 then st else P0):=by show _=_;rw[HNX.out.pub,hkd,hst,HNN.out.1]
   have HM':Hid (kD x.e (H.take (k+1))=if kd=4 then(M0||(decide (st>sx)&&mt))else M0):=by show _=_;rw[HNX.out.met,hkd,hst,hsx,hmt,HNN.out.2.1]
   have HR':Hid (aV (bh x.tx (H.take (k+1)))=if ty=tx/\kd=2/\ow=false then be R0 cy else R0):=by show _=_;rw[HNX.out.reads,HNN.out.2.2.1,hty,htx,hkd,how,hcy]
   have HC':Hid (cellsOf (bh x.tx (H.take (k+1)))=if ty=tx/\kd=3/\cy∉C0 then C0++[cy]else C0):=by show _=_;rw[HNX.out.cells,HNN.out.2.2.2,hty,htx,hkd,hcy]
   have HKD:=kH (And.intro hkd hmt)
   have HQ9:Hid (ey[9]?=some (.int .i64 st)/\ex[7]?=some (.int .i64 sx)):=⟨by rw[HQ.out.2.2.2.2,hst],by rw[HXQ.out.2,hsx]⟩
   have HQ4:Hid (ey[4]?=some (.int .i64 cy)):=by show _=_;rw[HQ.out.2.2.1,hcy]
   rw[hty]at y2
   rw[hkd]at y3
   rw[hcy]at y4
   rw[how]at y6
   rw[hst]at y9
   rw[htx]at x2
   rw[hsx]at x7
   clear hkd hst hsx hty htx hcy how hmt HQ HXQ HNX HNN
   by_cases h4:kd=4
   ·subst h4
    have m13:eX W5 b13 10 (dG y.e.sig):=by
     have h:W5.heap[b13]?=some (.cells ey.toArray 44 (0,0)):=HSa.out.h0
     rw[<-HEY.out]at h
     exact u4 h (HSG.out HKD.out.1).1
    have m7:eX W5 b7 10 (dG x.e.sig):=by
     have h:W5.heap[b7]?=some (.cells ex.toArray 44 (0,0)):=HSa.out.h3
     rw[<-HEX.out]at h
     exact u4 h HF.out.ok.2.1.1
    have HSH:Hid (∀ w,Calls Tryz.prog 28 #[.agg (dG y.e.sig).toArray,.agg (dG x.e.sig).toArray] w (dd (.bool mt) w)):=fun w=>by
     rw[<-HKD.out.2]
     exact tt y.e.sig x.e.sig (HSG.out HKD.out.1) HF.out.ok.2.1 w
    generalize dG y.e.sig=ly at *
    generalize dG x.e.sig=lx at *
    have HR2:Hid (aV (bh x.tx (H.take (k+1)))=R0):=by show _=_;rw[HR'.out,if_neg (fun h=>absurd h.2.1 (by decide))]
    have HC2:Hid (cellsOf (bh x.tx (H.take (k+1)))=C0):=by show _=_;rw[HC'.out,if_neg (fun h=>absurd h.2.1 (by decide))]
    have HP2:Hid (lK (H.take (k+1))=st):=by show _=_;rw[HP'.out,if_pos rfl]
    have HM2:Hid (kD x.e (H.take (k+1))=(M0||(decide (st>sx)&&mt))):=by show _=_;rw[HM'.out,if_pos rfl]
    clear HR' HC' HP' HM'
    go_wp2_with fail
    refine(HSH.out _).mono ?_
    rintro e2 w6 ⟨rfl,hb6⟩
    have HS6:=kH (HSa.out.below hb6)
    have z9:=HS6.out.cell 9
    have z7:=cell_of_row w6 b7 7 _ _ _ HS6.out.h3
    simp only[gA,HQ9.out.1,HQ9.out.2]at z9 z7
    clear m13 m7 y2 y3 y4 y6 y9 x2 x7 hb6
    cases M0 with
    | true =>
     go_wp2
     go_roundg (i-k)
     case measure=>have:=HM.out;omega
     case rel=>exact⟨k+1,by omega,by rw[HP2.out],by rw[HM2.out];rfl,by go_num,by have:=HM.out;omega,by rw[HR2.out,HC2.out];exact HS6.out.drop⟩
    | false =>
     by_cases hgt:sx<st
     ·have HM3:Hid (kD x.e (H.take (k+1))=mt):=by show _=_;rw[HM2.out,show decide (st>sx)=true from decide_eq_true hgt];rfl
      clear HM2
      cases mt
      all_goals
       go_wp2
       go_roundg (i-k)
       case measure=>have:=HM.out;omega
       case rel=>exact⟨k+1,by omega,by rw[HP2.out],by rw[HM3.out],by go_num,by have:=HM.out;omega,by rw[HR2.out,HC2.out];exact HS6.out.drop⟩
     ·have HM3:Hid (kD x.e (H.take (k+1))=false):=by show _=_;rw[HM2.out,show decide (st>sx)=false from decide_eq_false (by omega)];rfl
      clear HM2
      have hgt':st<=sx:=by omega
      go_wp2
      go_roundg (i-k)
      case measure=>have:=HM.out;omega
      case rel=>exact⟨k+1,by omega,by rw[HP2.out],by rw[HM3.out],by go_num,by have:=HM.out;omega,by rw[HR2.out,HC2.out];exact HS6.out.drop⟩
   ·have HP2:Hid (lK (H.take (k+1))=P0):=by show _=_;rw[HP'.out,if_neg h4]
    have HM2:Hid (kD x.e (H.take (k+1))=M0):=by show _=_;rw[HM'.out,if_neg h4]
    have h4':(kd == 4)=false:=by simp[h4]
    clear HP' HM' HKD HSG
    by_cases ht:ty=tx
    ·subst ht
     by_cases h2:kd=2/\ow=false
     ·obtain⟨rfl,rfl⟩:=h2
      have HR2:Hid (aV (bh x.tx (H.take (k+1)))=be R0 cy):=by show _=_;rw[HR'.out,if_pos ⟨rfl,rfl,rfl⟩]
      have HC2:Hid (cellsOf (bh x.tx (H.take (k+1)))=C0):=by show _=_;rw[HC'.out,if_neg (fun h=>absurd h.2.1 (by decide))]
      have HWI:=kH (fun w=>iW R0 cy HOKR.out w)
      have m11:ck W5 b11 (bH R0):=⟨HSa.out.h2,(dp HOKR.out.1).len⟩
      have hcs2:fR (bH (be R0 cy)):=dp (cF HOKR.out cy).1
      unfold dR at HWI
      clear HR' HC'
      obtain⟨SR,hSR⟩:∃ z,bH (be R0 cy)=z:=⟨_,rfl⟩
      have HSR:=kH hSR
      rw[hSR]at hcs2 HWI
      clear hSR
      go_wp2_with fail
      refine(HWI.out _).mono ?_
      rintro e2 w6 ⟨rfl,hb6⟩
      have HS6:=kH (HSa.out.below hb6)
      have n11:ck w6 b11 (bH R0):=⟨HS6.out.h2,(dp HOKR.out.1).len⟩
      clear m11 y2 y3 y4 y6 y9 x2 x7 hb6
      go_wp2
      go_roundg (i-k)
      case measure=>have:=HM.out;omega
      case rel =>
       refine⟨k+1,by omega,by rw[HP2.out],by rw[HM2.out],by go_num,by have:=HM.out;omega,?_⟩
       rw[HR2.out,HC2.out,HSR.out]
       have S7:=(ah.pull [_,_] HS6.out).setRow SR
       exact(ah.push [_,_] S7).drop
     ·have HR2:Hid (aV (bh x.tx (H.take (k+1)))=R0):=by show _=_;rw[HR'.out,if_neg (fun h=>h2 h.2)]
      by_cases h3:kd=3
      ·subst h3
       have hrw:aD W5 3 1 _ C0.length (bz C0):=HSa.out.h1
       obtain⟨ca,cc,hu,hncc,hccm⟩:=hrw.slice
       subst hu
       have HS5:=kH HSa.out
       have HCM:=kH hccm
       obtain⟨nc,hncl⟩:∃ z,C0.length=z:=⟨_,rfl⟩
       have HNC:=kH hncl
       rw[hncl]at hncc HCL ⊢
       rw[hncl]at HS5
       have hnc9:nc<=1000000000:=HCL.out
       have hncI:(nc:Int)<=(cc:Int):=by omega
       have HC3:Hid (cellsOf (bh x.tx (H.take (k+1)))=if cy∉C0 then C0++[cy]else C0):=by
        show _=_
        rw[HC'.out]
        by_cases hm:cy∈C0
        ·rw[if_neg (fun h=>h.2.2 hm),if_neg (fun h=>h hm)]
        ·rw[if_pos ⟨rfl,rfl,hm⟩,if_pos hm]
       clear HR' HC' hrw hccm hncl h2 h4 HSa
       go_wp2
       go_loopg[15,16] (nc+1) (fun m v15 v16 ws=>∃ t:Nat,t<=nc/\v15=.bool (decide (cy∈C0.take t))/\v16=.int .i64 t/\m+t=nc+1 /\
        ah w0 X (ag b13 (.cells ey.toArray 44 (0,0))::aN 3 1 (.slice ca nc cc) nc (bz C0)::ag b11 (.cells (bH R0) 42 (0,0))::ag b7 (.cells ex.toArray 44 (0,0))::ag b3 (.cells #[.int .i64 c.raw,.int .i64 c.ring,.int .i64 c.writes,.int .i64 c.stamps,.bool c.multi,.int .i64 c.tries,rv,pv,tv] 28 (0,0))::bW (.slice (some ⟨g,0,none⟩) n cap) H::Cs) ws)
       case atStart=>exact⟨0,Nat.zero_le _,by simp,rfl,rfl,HS5.out⟩
       case round =>
        obtain⟨t,ht,rfl,rfl,hm2,hSt⟩:=hrel
        have HM5:=kH hm2
        have HSt:=kH hSt
        have htI:(t:Int)<=(nc:Int):=by omega
        have w4:=hSt.cell 4
        have hrow:aD wr 3 1 (.slice ca nc cc) nc (bz C0):=hSt.h1
        have HRW:=kH hrow
        rw[gA,HQ4.out]at w4
        clear HS5 hm2 hSt y2 y3 y4 y6 y9 x2 x7
        by_cases hlt2:t<nc
        ·rcases hrow.parts with⟨-,h0,-⟩|⟨gc,cc2,hvv,-,-,hgc,hcc⟩
         ·omega
         injection hvv with hv1 hv2 hv3
         subst hv1
         obtain⟨z,hz⟩:∃ z,C0[t]?=some z:=⟨C0[t]'(by have:=HNC.out;omega),List.getElem?_eq_getElem _⟩
         have wt:=hcc t (.int .i64 z) (by unfold bz;rw[List.getElem?_map,hz];rfl)
         have HEN:Hid (decide (cy∈C0.take (t+1))=(decide (cy∈C0.take t)||decide (z=cy))):=by
          show _=_
          rw[List.take_add_one,hz]
          simp only[Option.toList_some,List.mem_append,List.mem_singleton,Bool.decide_or]
          congr 1
          exact decide_eq_decide.2 eq_comm
         have htI2:(t:Int)<(nc:Int):=by omega
         clear hrow hcc hv2 hv3 hz
         obtain⟨ed,hed⟩:∃ e,decide (cy∈C0.take t)=e:=⟨_,rfl⟩
         rw[hed]at HEN ⊢
         clear hed
         cases ed with
         | true =>
          go_upto_region 22 with(fail)
          go_quiet(fail)
          go_wp2
          go_roundg (nc-t)
          case measure=>have:=HM5.out;omega
          case rel=>exact⟨t+1,by omega,by rw[HEN.out];rfl,by go_num,by have:=HM5.out;omega,HSt.out.drewN _⟩
         | false =>
          by_cases hzc:z=cy
          ·subst hzc
           go_upto_region 22 with(fail)
           go_quiet(fail)
           go_wp2
           go_roundg (nc-t)
           case measure=>have:=HM5.out;omega
           case rel=>exact⟨t+1,by omega,by rw[HEN.out];simp,by go_num,by have:=HM5.out;omega,HSt.out.drewN _⟩
          ·have HEF:Hid (decide (cy∈C0.take (t+1))=false):=by show _=_;rw[HEN.out];simp[hzc]
           have hzc':(z == cy)=false:=by simp[hzc]
           clear HEN hzc
           go_upto_region 22 with(fail)
           go_quiet(fail)
           go_wp2
           go_roundg (nc-t)
           case measure=>have:=HM5.out;omega
           case rel=>exact⟨t+1,by omega,by rw[HEF.out],by go_num,by have:=HM5.out;omega,HSt.out.drewN _⟩
        ·obtain rfl:t=nc:=by omega
         have hall:C0.take t=C0:=List.take_of_length_le (by have:=HNC.out;omega)
         rw[hall]
         clear hrow
         by_cases hm9:cy∈C0
         ·have HC4:Hid (cellsOf (bh x.tx (H.take (k+1)))=C0):=by show _=_;rw[HC3.out,if_neg (fun h=>h hm9)]
          rw[show decide (cy∈C0)=true from decide_eq_true hm9]
          clear hall HC3 hm9
          go_wp2
          go_roundg (i-k)
          case measure=>have:=HM.out;omega
          case rel=>exact⟨k+1,by omega,by rw[HP2.out],by rw[HM2.out],by go_num,by have:=HM.out;omega,by rw[HR2.out,HC4.out,HNC.out];exact HSt.out.drop⟩
         ·have HC4:Hid (cellsOf (bh x.tx (H.take (k+1)))=C0++[cy]):=by show _=_;rw[HC3.out,if_pos hm9]
          rw[show decide (cy∈C0)=false from decide_eq_false hm9]
          clear hall HC3 hm9
          have HA:=kH (mZ C0 cy)
          obtain⟨i0,yi,yz0,yz1,yz2⟩:=info_parts tR
          go_wp2_with(at_builtin;refine wpList_append_lies _ rfl (.tmp 94) (.tmp 97) 29 rfl 0 3 i0 _ 1 8 Tryz.underlying29 yi yz0 yz1 yz2 rfl (by decide) (.slice ca t cc) t (bz C0) rfl (World.ownsRow.alloc HRW.out _) ⟨wr.heap.size,0,none⟩ 1 1 [.int .i64 cy] rfl rfl (fun j u hu=>cG (ar rfl) j u hu) (by simp[Value.oneCell']) (by decide) (by unfold maxLen;omega) (by omega) (Nat.zero_le _) _ rfl ?_;intro g5 cap5 w5 hown5 hgrow5 hat5 hgl5;have S5:=(((HSt.out.drop).alloc _).append hgrow5 hown5 hat5 (Nat.le_refl _));have HS7:=kH S5;clear S5 hown5 hgrow5 hat5)
          go_roundg (i-k)
          case measure=>have:=HM.out;omega
          case rel=>exact⟨k+1,by omega,by rw[HP2.out],by rw[HM2.out],by go_num,by have:=HM.out;omega,by rw[HR2.out,HC4.out,<-HA.out,show(C0++[cy]).length=t+1 by rw[List.length_append,HNC.out];rfl];exact HS7.out⟩
      ·have HC2:Hid (cellsOf (bh x.tx (H.take (k+1)))=C0):=by show _=_;rw[HC'.out,if_neg (fun h=>h3 h.2.1)]
       have h3':(kd == 3)=false:=by simp[h3]
       clear HR' HC'
       by_cases h20:kd=2
       ·subst h20
        obtain rfl:ow=true:=by
         cases ow with
         | true=>rfl
         | false=>exact absurd ⟨rfl,rfl⟩ h2
        go_wp2
        go_roundg (i-k)
        case measure=>have:=HM.out;omega
        case rel=>exact⟨k+1,by omega,by rw[HP2.out],by rw[HM2.out],by go_num,by have:=HM.out;omega,by rw[HR2.out,HC2.out];exact HSa.out.drop⟩
       ·have h2':(kd == 2)=false:=by simp[h20]
        clear h2 h3 h4 h20
        go_wp2
        go_roundg (i-k)
        case measure=>have:=HM.out;omega
        case rel=>exact⟨k+1,by omega,by rw[HP2.out],by rw[HM2.out],by go_num,by have:=HM.out;omega,by rw[HR2.out,HC2.out];exact HSa.out.drop⟩
    ·have HR2:Hid (aV (bh x.tx (H.take (k+1)))=R0):=by show _=_;rw[HR'.out,if_neg (fun h=>ht h.1)]
     have HC2:Hid (cellsOf (bh x.tx (H.take (k+1)))=C0):=by show _=_;rw[HC'.out,if_neg (fun h=>ht h.1)]
     have ht':(ty != tx)=true:=by simp[ht]
     clear HR' HC' ht h4
     go_wp2
     go_roundg (i-k)
     case measure=>have:=HM.out;omega
     case rel=>exact⟨k+1,by omega,by rw[HP2.out],by rw[HM2.out],by go_num,by have:=HM.out;omega,by rw[HR2.out,HC2.out];exact HSa.out.drop⟩
  ·obtain rfl:k=i:=by omega
   have hP0:lK (H.take k)<=1000000000:=by
    rw[HF.out.most]
    have h1:=ql (H.take k)
    rw[List.length_take]at h1
    omega
   have hrw:aD wr 3 1 _ (cellsOf (bh x.tx (H.take k))).length (bz (cellsOf (bh x.tx (H.take k)))):=HS.out.h0
   obtain⟨ca,cc,hu,hncc,hccm⟩:=hrw.slice
   subst hu
   have HNB:=kH (fun j (h:j<8)=>mI HF.out.ok.1 h)
   have HNX:=kH (fun j (h:j<8)=>show ex[10+j]?=some (.int .u64 (x.e.sig.getD j 0)) by rw[<-HEX.out];exact tU h)
   have HBT:=kH HF.out.bits
   have hw:=HF.out.how
   have h0:=HF.out.ok.2.2
   have HE18:Hid (ex[18]?=some (.int .i64 x.e.err)/\ex[7]?=some (.int .i64 x.e.start)):=by rw[<-HEX.out];exact⟨rfl,rfl⟩
   generalize lK (H.take k)=P0 at *
   generalize kD x.e (H.take k)=M0 at *
   generalize aV (bh x.tx (H.take k))=R0 at *
   generalize cellsOf (bh x.tx (H.take k))=C0 at *
   generalize x.e.err=er at *
   generalize x.e.start=st at *
   have HWE:=kH hw
   clear hw hrw hlt
   go_wp2
   go_loopg[17] 9 (fun m v17 ws=>∃ t:Nat,t<=8/\v17=.int .i64 t/\m+t=9 /\
    ah w0 X (aN 3 1 (.slice ca C0.length cc) C0.length (bz C0)::ag b11 (.cells (bH R0) 42 (0,0))::ag b7 (.cells ex.toArray 44 (0,0))::ag b3 (.cells #[.int .i64 c.raw,.int .i64 c.ring,.int .i64 c.writes,.int .i64 c.stamps,.bool c.multi,.int .i64 c.tries,rv,pv,tv] 28 (0,0))::bW (.slice (some ⟨g,0,none⟩) n cap) H::Cs) ws)
   case atStart=>exact⟨0,Nat.zero_le _,rfl,rfl,HS.out⟩
   case round =>
    obtain⟨t,ht,rfl,hm2,hSt⟩:=hrel
    have HM5:=kH hm2
    have HSt:=kH hSt
    clear HS hm2
    by_cases hlt2:t<8
    ·have htI2:(t:Int)<8:=by omega
     have k11:=hSt.cell1 t
     have k7:=hSt.cell2 (10+t)
     rw[HNB.out t hlt2]at k11
     rw[gA,HNX.out t hlt2]at k7
     have hb:=HBT.out t
     generalize R0.getD t 0=a at *
     generalize x.e.sig.getD t 0=b at *
     clear hSt
     go_upto_region 28 with(fail)
     go_quiet(fail)
     go_wp2
     go_roundg (8-t)
     case measure=>have:=HM5.out;omega
     case rel=>exact⟨t+1,by omega,by go_num,by have:=HM5.out;omega,HSt.out.drewN _⟩
    ·obtain rfl:t=8:=by omega
     have x18:=hSt.cell2 18
     have x7:=hSt.cell2 7
     rw[gA,HE18.out.1]at x18
     rw[gA,HE18.out.2]at x7
     have hb3:wr.heap[b3]?=some (.cells #[.int .i64 c.raw,.int .i64 c.ring,.int .i64 c.writes,.int .i64 c.stamps,.bool c.multi,.int .i64 c.tries,rv,pv,tv] 28 (0,0)):=hSt.h3
     have s1:=cell_of_row wr b3 1 _ _ _ hb3
     have s2:=cell_of_row wr b3 2 _ _ _ hb3
     have s3:=cell_of_row wr b3 3 _ _ _ hb3
     simp only[gA,gZ,gS]at s1 s2 s3
     obtain⟨nc,hncl⟩:∃ z,C0.length=z:=⟨_,rfl⟩
     have HFIN:Hid (ah w0 X (bW (.slice (some ⟨g,0,none⟩) n cap) H::Cs) wr):=HSt.out.drop.drop.drop.drop
     have hwe:=HWE.out
     rw[hncl]at hwe ⊢
     have hc0:C0=[]->nc=0:=fun h=>by rw[<-hncl,h];rfl
     clear hSt HSt hb3 HWE hncl HBT HNB HNX HE18
     rcases hwe with⟨rfl,h⟩|⟨rfl,h⟩|⟨rfl,h⟩|⟨rfl,h⟩|⟨rfl,h1,h2⟩|rfl|rfl
     ·obtain rfl:=hc0 h
      clear hc0 h
      go_wp2
      go_ret
      exact⟨rfl,HFIN.out⟩
     ·subst h
      clear hc0
      go_wp2
      go_ret
      exact⟨rfl,HFIN.out⟩
     ·have hwr:IntKind.i64.wrap (st+c.ring)=st+c.ring:=IntWalk.i64_in _ (by omega)
      clear hc0
      go_wp2
      go_ret
      exact⟨rfl,HFIN.out⟩
     ·skip
      clear hc0
      go_wp2
      go_ret
      exact⟨rfl,HFIN.out⟩
     ·skip
      subst h1
      clear hc0
      go_wp2
      go_ret
      exact⟨rfl,HFIN.out⟩
     ·clear hc0
      go_wp2
      go_ret
      exact⟨rfl,HFIN.out⟩
     ·clear hc0
      go_wp2
      go_ret
      exact⟨rfl,HFIN.out⟩
end
section
variable {w0:World}{X:List Nat}{Cs:List aw}{w:World}{f:iE}{N:Nat}{d:WD}
theorem why_at{c:cN}{H:List dh}(hH:dB c H){i:Nat}{x:dh}(h:H[i]?=some x)(h6:x.e.kind=6):WhyF c (H.take i) x/\∀ (k:Nat) (y:dh),H[k]?=some y->y.tx=x.tx->y.e.kind≠4/\k<=i:=by
 obtain⟨e,hl⟩:=uX h
 rw[e]at hH
 refine⟨why_ok hH h6,fun k y hy ht=>?_⟩
 rw[e]at hy
 have:=xQ hH h6 hy ht
 rw[hl]at this
 exact this
theorem DJ(w:World)(s:cQ)(lv:Value)(ls:List Int)(hs:cP w w.heap.size s)(hl:ct w w.heap.size lv ls.length 1 (bz ls))(hlen:ls.length<=1048576)(ht:Cod.Tabled w) :
  Calls Tryz.prog 4 #[s.val,lv] w (fun e w'=>e=.returned (.bool true)/\Below w.heap.size w w'):=by
 have HPL:=kH (fun o=>tF (w.alloc o) s lv ls ((hs.below (ai w o)).up (by simp)) ((hl.below (ai w o)).up (by simp)) hlen (ht.below ht.1 (ai w o)))
 have HWC:=kH (fun w0 X Cs w H hv i x hS hx hn hF hc=>Ae (w0:=w0) (X:=X) (Cs:=Cs) (w:=w) s H hv i x hS hx hn hF hc)
 clear hs hl ht
 have HSV:=kH (rfl:s.val=s.val)
 obtain⟨c,rv,rs,pv,progs,tv,tl⟩:=s
 unfold cQ.val at HPL HWC ⊢
 dsimp only at HPL HWC ⊢
 go_enter Tryz.func4,Tryz.ntmps4
 go_wp2_with fail
 refine(HPL.out _).mono ?_
 rintro e1 w1 (⟨rfl,hb1⟩|⟨f,X',w2,d,rfl,hbeg,hW,hG⟩)
 ·go_wp2
  go_ret
  exact⟨rfl,(ai w _).trans (hb1.mono (by simp))⟩
 ·have HBX:=kH (fun W hk=>xE (W:=W) hbeg.below hbeg.new hk)
  obtain⟨hcf,hce⟩:=lH hbeg
  have HR:Hid (1<=c.ring/\c.ring<=16):=by
   have h:=hcf.ring
   rw[hce]at h
   exact h
  have HH:Hid (∀ (i:Nat) (x:dh),d.ev[i]?=some x->x.e.kind=6->WhyF ⟨c.ring,c.writes,c.stamps,c.multi⟩ (d.ev.take i) x/\∀ (k:Nat) (y:dh),d.ev[k]?=some y->y.tx=x.tx->y.e.kind≠4/\k<=i):=fun i x h1 h2=>by
   have h:=hG.hist
   rw[hce]at h
   exact why_at h h1 h2
  have HEV:=kH (wM hW (by omega) 0 (Nat.zero_le _))
  have hel:=hW.evl
  unfold ptr at HEV ⊢
  clear hbeg hcf hce hG hW
  go_wp2_with fail
  refine HEV.out.mono ?_
  rintro e3 w3 ⟨hv,rfl,hW3⟩
  rw[List.drop_zero]at hW3
  obtain⟨Ds,hS3⟩:=hW3.sep
  clear hW3 HEV
  generalize d.ev=H at *
  have hrow3:aD w3 44 19 hv H.length (aL H):=hS3.h0
  obtain⟨eo,ec,rfl,hec,-⟩:=hrow3.slice
  obtain⟨n,hnl⟩:∃ n,H.length=n:=⟨_,rfl⟩
  have HNL:=kH hnl
  have HS3:=kH hS3
  have hnb:n<=1000000000:=by omega
  have hecI:(n:Int)<=(ec:Int):=by omega
  clear hrow3 hS3 hel
  rw[hnl]at HS3 ⊢
  clear hnl hec
  go_wp2
  go_loopg[8] (n+1) (fun m v8 wr=>∃ i:Nat,i<=n/\v8=.int .i64 i/\m+i=n+1/\ah w2 X' (bW (.slice eo n ec) H::Ds) wr)
  case atStart=>exact⟨0,Nat.zero_le _,rfl,rfl,HS3.out⟩
  case round =>
   obtain⟨i,hi,rfl,hm,hS⟩:=hrel
   have HM:=kH hm
   have HS:=kH hS
   have hiI:(i:Int)<=(n:Int):=by omega
   clear hm HS3 hS
   by_cases hlt:i<n
   ·obtain⟨x,hx⟩:∃ x,H[i]?=some x:=⟨H[i]'(by have:=HNL.out;omega),List.getElem?_eq_getElem _⟩
    have HX:=kH hx
    obtain⟨g,rfl,hcap,hg,hcell⟩:=nm (show aD wr 44 19 (.slice eo n ec) H.length (aL H)from HS.out.h0) HNL.out (by omega)
    have i3:=hcell i 3 x _ hx rfl
    obtain⟨kd,hkd⟩:∃ z,x.e.kind=z:=⟨_,rfl⟩
    rw[hkd]at i3
    have HKD:=kH hkd
    have hltI:(i:Int)<(n:Int):=by omega
    clear hcell hcap hx hkd
    by_cases h6:kd=6
    ·subst h6
     obtain⟨hF,hnone⟩:=HH.out i x HX.out HKD.out
     have HNO:=kH hnone
     have HW1:=kH (HWC.out w2 X' Ds wr H (.slice (some ⟨g,0,none⟩) n ec) i x HS.out HX.out (by rw[HNL.out];exact hnb) hF HR.out)
     have hC:=(HBX.out _ HS.out.kept).2
     have q0:=cell_of_row wr w.heap.size 0 _ _ _ hC
     have q1:=cell_of_row wr w.heap.size 1 _ _ _ hC
     have q2:=cell_of_row wr w.heap.size 2 _ _ _ hC
     have q3:=cell_of_row wr w.heap.size 3 _ _ _ hC
     have q4:=cell_of_row wr w.heap.size 4 _ _ _ hC
     have q5:=cell_of_row wr w.heap.size 5 _ _ _ hC
     have q6:=cell_of_row wr w.heap.size 6 _ _ _ hC
     have q7:=cell_of_row wr w.heap.size 7 _ _ _ hC
     have q8:=cell_of_row wr w.heap.size 8 _ _ _ hC
     simp only[gA,gZ,gS]at q0 q1 q2 q3 q4 q5 q6 q7 q8
     have hltb:=af hC
     clear hC hF hnone HWC HH
     go_wp2_with fail
     refine HW1.out.mono ?_
     rintro e4 w4 ⟨rfl,hS4⟩
     have HS4:=kH hS4
     clear hS4 HW1 i3 q0 q1 q2 q3 q4 q5 q6 q7 q8 hltb hg
     go_wp2
     go_loopg[10] (n+1) (fun m v10 ws=>∃ k:Nat,k<=n/\v10=.int .i64 k/\m+k=n+1/\ah w2 X' (bW (.slice (some ⟨g,0,none⟩) n ec) H::Ds) ws)
     case atStart=>exact⟨0,Nat.zero_le _,rfl,rfl,HS4.out⟩
     case round =>
      obtain⟨k,hk,rfl,hm2,hSk⟩:=hrel
      have HM2:=kH hm2
      have HSk:=kH hSk
      have hkI:(k:Int)<=(n:Int):=by omega
      clear hm2 HS4 hSk
      by_cases hltk:k<n
      ·obtain⟨y,hy⟩:∃ y,H[k]?=some y:=⟨H[k]'(by have:=HNL.out;omega),List.getElem?_eq_getElem _⟩
       obtain⟨g',hg',hcap,hg,hcell⟩:=nm (show aD wr 44 19 (.slice (some ⟨g,0,none⟩) n ec) H.length (aL H)from HSk.out.h0) HNL.out (by omega)
       obtain rfl:g=g':=by
        injection hg' with hg'
        injection hg'
       have i2:=hcell i 2 x _ HX.out rfl
       have k2:=hcell k 2 y _ hy rfl
       have k3:=hcell k 3 y _ hy rfl
       have hno:=HNO.out k y hy
       obtain⟨ky,hky⟩:∃ z,y.e.kind=z:=⟨_,rfl⟩
       obtain⟨ty,hty⟩:∃ z,y.tx=z:=⟨_,rfl⟩
       obtain⟨tx,htx⟩:∃ z,x.tx=z:=⟨_,rfl⟩
       rw[hky]at k3 hno
       rw[hty]at k2 hno
       rw[htx]at i2 hno
       have hltkI:(k:Int)<(n:Int):=by omega
       clear hcell hcap hg' hy hky hty htx
       by_cases htt:ty=tx
       ·subst htt
        obtain⟨h4,hki⟩:=hno rfl
        have h4':(ky == 4)=false:=by simp[h4]
        have hkiI:(k:Int)<=(i:Int):=by omega
        clear hno h4 hki
        go_upto_region 15 with(fail)
        go_quiet(fail)
        go_wp2
        go_roundg (n-k)
        case measure=>have:=HM2.out;omega
        case rel=>exact⟨k+1,by omega,by go_num,by have:=HM2.out;omega,HSk.out.drewN _⟩
       ·have htt':(ty == tx)=false:=by simp[htt]
        clear hno htt
        go_upto_region 15 with(fail)
        go_quiet(fail)
        go_wp2
        go_roundg (n-k)
        case measure=>have:=HM2.out;omega
        case rel=>exact⟨k+1,by omega,by go_num,by have:=HM2.out;omega,HSk.out.drewN _⟩
      ·obtain rfl:k=n:=by omega
       go_wp2
       go_roundg (k-i)
       case measure=>have:=HM.out;omega
       case rel=>exact⟨i+1,by omega,by go_num,by have:=HM.out;omega,HSk.out⟩
    ·have h6':(kd != 6)=true:=by simp[h6]
     clear h6
     go_wp2
     go_roundg (n-i)
     case measure=>have:=HM.out;omega
     case rel=>exact⟨i+1,by omega,by go_num,by have:=HM.out;omega,HS.out⟩
   ·obtain rfl:i=n:=by omega
    have HB:=kH (HBX.out _ HS.out.kept).1
    go_wp2
    go_ret
    exact⟨rfl,HB.out⟩
end
namespace topWhy
open Go Go.RowKit Go.ChangeShapes Go.WideShapes Go.ChangeAt
def pV:Value:=.agg #[.int .i64 0,.int .i64 0,.int .i64 0,.int .i64 0,.bool false,.int .i64 0,.slice none 0 0,.slice none 0 0,.slice none 0 0]
theorem contract(H:Type)(enc:TypeId×Value->H)(W:World)(base:Nat)(args:Array Value)(ds gs:List (DataW H))(before:List MemPlace)
  (hval0:∀ (j:Nat) t v,Tryz.f4.params[j]?=some t->args[j]?=some v->Value.okWide Tryz.prog W .any base t v)
  (hW:DataW.Whole enc Tryz.prog Tryz.f4.params.toList Rows.topWhySpec.vars false W args.toList ds gs before) (hk:Rows.uptoSmall H (ds++gs)=true)
  (hsz0:(DataW.weightsEach Tryz.prog (Tryz.f4.params.toList++Rows.topWhySpec.plain.varTypes Tryz.prog) (ds++gs)).all (·<=reachBytes)=true) (hL:laidMetH Tryz.prog zH W) :
  Calls Tryz.prog 4 args W fun e W'=>∃ v,e=.returned v/\Rows.topWhySpec.post enc Tryz.prog Tryz.f4 false true false false W args v W':=by
 have hval:∀ (j:Nat) t v,Tryz.f4.params[j]?=some t->args[j]?=some v->Value.okWide Tryz.prog W .any base t v:=hval0
 have hW':=hW
 obtain⟨p,q,hA0,hV,rfl,hfz,hnd⟩:=hW
 have hA:DataW.TrodAll enc Tryz.prog W 0 (fun _=>true) true Tryz.f4.params.toList args.toList ds p:=hA0
 have hsz:=hsz0
 rw[Tryz.params4]at hA hval hsz
 obtain⟨v0,vs0,d0,ds0,p0,q0,hargs,rfl,rfl,h0,r0⟩:=trodAll_cons hA
 obtain⟨v1,vs1,d1,ds1,p1,q1,rfl,rfl,rfl,h1,r1⟩:=trodAll_cons r0
 obtain⟨rfl,rfl,rfl⟩:=trodAll_nil r1
 obtain rfl:args=#[v0,v1]:=by cases args;simp_all
 obtain⟨rfl,rfl⟩:=trodVars_none hV
 have lt0:∀ x∈p0,x.block<W.heap.size:=by obtain⟨m,hm⟩:=h0;exact DataW.trod_lt m _ _ _ hm
 have lt1:∀ x∈p1,x.block<W.heap.size:=by obtain⟨m,hm⟩:=h1;exact DataW.trod_lt m _ _ _ hm
 obtain⟨s,rfl,hs⟩:=qB (hval 0 28 v0 rfl rfl) h0 (Plc.fits_each hsz (j:=0) rfl rfl)
 obtain⟨ls,hl,hb⟩:=sy (hval 1 29 v1 rfl rfl) h1 (Plc.fits_each hsz (j:=1) rfl rfl)
 have hlen:ls.length<=1048576:=by
  have h2:=wE hk
  omega
 clear hA0 hval0 hsz0
 refine(DJ W s v1 ls hs hl hlen (kj hL)).mono fun e W' ⟨he,bel⟩=>?_
 subst he
 exact⟨_,rfl,_,_,_,[],_,[],hW',trodAll_mk1 (shut_bool Tryz.underlying4 _),(trodAll_cons_mk (Below.trod Plc.laidOut (by kernel_rfl) (of_decide_eq_true (by kernel_rfl)) h0 bel lt0) (trodAll_cons_mk (Below.trod Plc.laidOut (by kernel_rfl) (of_decide_eq_true (by kernel_rfl)) h1 bel lt1) trodAll_mk0)),rfl,bel.frame _,fun h=>by cases h⟩
theorem reads(os:Os){H:Type}(enc:TypeId×Value->H):∃ places,DataW.whole enc Tryz.prog ((World.doorLaid Tryz.prog 400 os).forCall (fun _ _=>0) ⟨#[],#[pV,.slice none 0 0],[]⟩).memory Tryz.f4.params.toList Rows.topWhySpec.vars false #[pV,.slice none 0 0].toList 8 =
  some ([.agg [.agg [.lit (.int .i64 0),.lit (.int .i64 0),.lit (.int .i64 0),.lit (.int .i64 0),.lit (.bool false),.lit (.int .i64 0),.nil],.nil,.nil],.nil],[],places) :=
 ⟨[],by kernel_rfl⟩
theorem lifted(os:Os)(started:os.Started)(H:Type)(enc:TypeId×Value->H)(F:Stop.Interp) :
  ReturnsInHanded {} Tryz.checked os 4 .any ((Rows.OpenSpec.upto Rows.topWhySpec).preRow enc Tryz.prog Tryz.f4 Rows.topWhyUptoRow.domain false Rows.topWhyUptoRow.laid) (((Rows.OpenSpec.upto Rows.topWhySpec).at F).post enc Tryz.prog Tryz.f4 false true false false):=by
 obtain⟨places,hx⟩:=reads os enc
 refine returnsInHanded_of_row (C:=Tryz.checked) (s:=Rows.OpenSpec.upto Rows.topWhySpec) Plc.own started (by kernel_rfl) Tryz.func4
  (witness_row_at (enc:=enc) (C:=Tryz.checked) false (World.doorLaid Tryz.prog 400 os) #[pV,.slice none 0 0] rfl (by kernel_rfl) (by kernel_rfl) (by kernel_rfl)
   (OpenSpec.preRow_of_cond 8 hx (by kernel_rfl) (fun k hk=>by cases hk;kernel_rfl) (by kernel_rfl) (wh os _))) ?_
 intro W base args ds gs before hval hW _ hcond hsz hL _ _
 exact contract H enc W base args ds gs before hval hW (hcond _ rfl) hsz hL
theorem over:Rows.TopWhyUptoSaid :=
 OpenClaim.holds_of_cond 4 Tryz.f4 rfl rfl rfl rfl rfl rfl rfl ⟨rfl,rfl,rfl,rfl,rfl⟩ rfl rfl rfl rfl rfl (by kernel_rfl) Tryz.func4 (by kernel_rfl)
  (of_decide_eq_true (by kernel_rfl)) (by unfold Func.isWrapper;first|(rw[if_pos (by decide +kernel)];kernel_rfl)|(rw[if_neg (by decide +kernel)];exact⟨rfl,rfl⟩))
  (fun os started H enc _ F=>by rw[OpenClaim.pre_eq_preRow];exact lifted os started H enc F)
theorem proved:Rows.TopWhyUptoCardSaid :=
 Claim7.holds_tied_plain_at .later [] _ _ _ _
  over (fun _ h=>by cases h) (by kernel_rfl) (fun _ h=>by cases h) topWhyUpto_row_tie rfl ⟨rfl,rfl⟩ (by kernel_rfl) rfl
  (fun f fn hf hfn=>by
   obtain rfl:f=4:=Option.some.inj ((show Tryz.prog.funcNamed "carousel/carouseltop.TopWhy"=some 4 by kernel_rfl).symm.trans hf) |>.symm
   obtain rfl:fn=Tryz.f4:=(Option.some.inj (Tryz.func4.symm.trans hfn)).symm
   exact⟨by kernel_rfl,fun j t ht=>by
    rw[Tryz.params4]at ht
    have hm:t∈[28,29]:=by simpa using Array.mem_of_getElem? ht
    have hall:([28,29].all fun u=>!Tryz.prog.wantsStandIn u)=true:=by kernel_rfl
    exact(show Tryz.prog.wantsStandIn t=false by simpa using List.all_eq_true.1 hall t hm)⟩)
  (by kernel_rfl)
#print axioms proved
end topWhy
end Go.Proofs.YtgfogfciobmmpaaGreatDoor
