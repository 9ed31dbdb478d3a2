/- A part of the proof of a law of carouseltop: Ask2 Outc Take. -/
import Derived.Test.YtgfogfciobmmpaaGreatDoorBBa
import Derived.Deep.MidRow
import Derived.Deep.WholeRow
import Derived.Deep.RegionLaw
import Derived.Deep.RegionHeld3
import Derived.Deep.CutRange
set_option linter.unusedSimpArgs false
set_option linter.unusedVariables false
set_option maxRecDepth 100000
set_option maxHeartbeats 8000000
namespace Go.Proofs.YtgfogfciobmmpaaGreatDoor
open Go.RowKit
def nP(K:iY)(hi:Int)(n:Nat)(r:ax×K.S):Prop :=
 (r.1.kind=6/\aI r.1.value/\aI r.1.code)\/((r.1.kind=2\/r.1.kind=3)/\0<=r.1.cell/\r.1.cell<hi/\aI r.1.value/\jz K hi n r.2)
theorem kB{hi:Int}{n:Nat}{m:Que.MS}(h:∀ v,aI v->nP rj hi n (Que.goM m v)):jz rj hi (n+1) m:=h
theorem chn_of{hi:Int}{n:Nat}{b mo:Int}{k:Chn.K}(h:∀ v,aI v->nP rk hi n ((Chn.goK b mo k v).1,⟨b,mo,(Chn.goK b mo k v).2⟩)):jz rk hi (n+1) ⟨b,mo,k⟩:=h
theorem nP.fin{K:iY}{hi:Int}{n:Nat}{x:ax}{m:K.S}(h6:x.kind=6)(hv:aI x.value)(hc:aI x.code):nP K hi n (x,m):=.inl ⟨h6,hv,hc⟩
theorem nP.read{K:iY}{hi:Int}{n:Nat}{c:Int}{m:K.S}(h0:0<=c)(h1:c<hi)(h:jz K hi n m):nP K hi n (bV c,m):=.inr ⟨.inl rfl,h0,h1,aK,h⟩
theorem nP.put{K:iY}{hi:Int}{n:Nat}{c v:Int}{m:K.S}(h0:0<=c)(h1:c<hi)(hv:aI v)(h:jz K hi n m):nP K hi n (bN c v,m):=.inr ⟨.inr rfl,h0,h1,hv,h⟩
theorem qQ:aI 1:=by unfold aI;omega
theorem zI:aI 2:=by unfold aI;omega
theorem i64_3:aI 3:=by unfold aI;omega
theorem yH{f k n:Int}(h1:1<=n)(h2:n<=16):aI (Que.behindI f k n):=by
 have:=Que.behind_bounds f k n h1
 unfold aI
 omega
theorem Cx{base most call:Int}{xs:List Int}(hb:0<=base)(hm:0<=most/\most<=16)(hx:∀ x∈xs,aI x):jz rj (base+(most+2)) 6 (Que.initM base most call xs):=by
 have hv0:aI (xs.getD 0 0):=by
  cases xs with
  | nil=>exact aK
  | cons a l=>exact hx a List.mem_cons_self
 unfold Que.initM
 generalize xs.getD 0 0=a at *
 refine kB fun v _=>.read hb (by show base<_;omega) ?_
 refine kB fun f _=>.read (by show 0<=base+1;omega) (by show base+1<_;omega) ?_
 refine kB fun l hl=>?_
 show nP rj _ _ (Que.lenM ⟨⟨base,most,call,a,f,0⟩,2,Go.Proofs.YtgfogfciobmmpaaGreatDoor.w0⟩ l)
 unfold Que.lenM
 dsimp only
 by_cases h5:call=5
 ·rw[if_pos h5]
  exact .fin rfl hl aK
 ·rw[if_neg h5]
  by_cases h3:call=3
  ·rw[if_pos h3]
   by_cases hf:most<=Que.u64 l
   ·rw[if_pos hf]
    exact .fin rfl aK zI
   ·rw[if_neg hf]
    have hl0:=Que.u64_bounds l
    have hbd:=Que.behind_bounds f (Que.u64 l) most (by omega)
    refine .put (by omega) (by omega) hv0 ?_
    refine kB fun u _=>.put (by show 0<=base+1;omega) (by show base+1<_;omega) (qP _) ?_
    exact kB fun u _=>.fin rfl aK aK
  ·rw[if_neg h3]
   by_cases hz:l=0\/most=0
   ·rw[if_pos hz]
    exact .fin rfl aK qQ
   ·rw[if_neg hz]
    have hbd:=Que.behind_bounds f 0 most (by omega)
    refine .read (by omega) (by omega) ?_
    refine kB fun u hu=>.put hb (by show base<_;omega) (yH (by show 1<=most;omega) hm.2) ?_
    refine kB fun u' _=>.put (by show 0<=base+1;omega) (by show base+1<_;omega) (qP _) ?_
    exact kB fun u' _=>.fin rfl hu aK
def okV(most:Int):Chn.K->Prop
 | .least=>True
 | .len=>True
 | .start _ k=>aI k
 | .keyOf=>True
 | .keyOf1=>True
 | .counts _=>True
 | .goes _ k cell _=>aI k/\cell<=2*most+2
 | .goes1 _ k cell _ p=>aI k/\cell<=2*most+2/\aI p
 | .addF k d=>aI k/\d.cell<=2*most+2/\aI d.p
 | .addQ k d _=>aI k/\d.cell<=2*most+2/\aI d.p
 | .addU k d=>aI k/\d.cell<=2*most+2/\aI d.p
 | .delQ d=>d.cell<=2*most+2/\aI d.p
 | .delF d=>d.cell<=2*most+2/\aI d.p
 | .put (.lays1 k d _)=>aI k/\d.cell<=2*most+2/\aI d.p
 | .put (.lays2 k d _)=>aI k/\d.cell<=2*most+2/\aI d.p
 | .put (.key k d _)=>aI k/\d.cell<=2*most+2/\aI d.p
 | .put (.link _ d _)=>d.cell<=2*most+2
 | .put .fin=>True
 | .put (.delW d)=>d.cell<=2*most+2/\aI d.p
 | .put (.delL d)=>aI d.p
 | .put .delFin=>True
 | .done x=>x.kind=6/\aI x.value/\aI x.code
def sD(most:Int):Chn.K->Nat
 | .least=>3
 | .len=>most.toNat+2
 | .start _ _=>2*most.toNat+8
 | .keyOf=>2
 | .keyOf1=>1
 | .counts n=>(most-n).toNat+1
 | .goes _ _ _ n=>2*(most-n).toNat+7
 | .goes1 _ _ _ n _=>2*(most-n).toNat+6
 | .addF _ _=>6
 | .addQ _ _ _=>5
 | .addU _ _=>5
 | .delQ _=>5
 | .delF _=>3
 | .put (.lays1 _ _ _)=>4
 | .put (.lays2 _ _ _)=>4
 | .put (.key _ _ _)=>3
 | .put (.link _ _ _)=>2
 | .put .fin=>1
 | .put (.delW _)=>4
 | .put (.delL _)=>2
 | .put .delFin=>1
 | .done _=>1
structure nS(base most:Int)(k0:Nat)(r:ax×Chn.K):Prop where
 one:(r.1.kind=6/\aI r.1.value/\aI r.1.code)\/((r.1.kind=2\/r.1.kind=3)/\0<=r.1.cell/\r.1.cell<base+(2*most+3)/\aI r.1.value/\okV most r.2/\sD most r.2<k0)
theorem fp{base most:Int}{k0:Nat}{v c:Int}(hv:aI v)(hc:aI c):nS base most k0 (Chn.endK v c):=⟨.inl ⟨rfl,hv,hc⟩⟩
theorem dV{base most:Int}{k0:Nat}{c:Int}{k:Chn.K}(h0:0<=c)(h1:c<base+(2*most+3))(h:okV most k)(hl:sD most k<k0):nS base most k0 (bV c,k):=⟨.inr ⟨.inl rfl,h0,h1,aK,h,hl⟩⟩
theorem gP{base most:Int}{k0:Nat}{c v:Int}{k:Chn.K}(h0:0<=c)(h1:c<base+(2*most+3))(hv:aI v)(h:okV most k)(hl:sD most k<k0):nS base most k0 (bN c v,k):=⟨.inr ⟨.inr rfl,h0,h1,hv,h,hl⟩⟩
theorem wC{base most call k:Int}{d:Chn.WayD}{k0:Nat}(hb:Chn.inB base most)(hd:Chn.OkD most d)(hk:aI k)(hc:d.cell<=2*most+2)(hp:aI d.p)(hy:aI d.key)(h0:7<=k0):nS base most k0 (Chn.thenK base call k d):=by
 obtain⟨b0,b1,m0,m1⟩:=hb
 obtain⟨c,p,st,ky,a⟩:=d
 unfold Chn.thenK
 split
 ·unfold Chn.addsK
  split
  ·exact fp aK i64_3
  ·exact dV (by omega) (by omega) ⟨hk,hc,hp⟩ (by show 6<k0;omega)
 ·split
  ·unfold Chn.delsK
   split
   ·rename_i ha
    obtain⟨h1,h2⟩:=hd.2 ha
    refine dV ?_ ?_ ⟨hc,hp⟩ (by show 5<k0;omega)<;>(unfold Chn.linkI;dsimp only at *;omega)
   ·exact fp aK qQ
  ·split
   ·unfold Chn.hasK
    split
    ·exact fp qQ aK
    ·exact fp aK aK
   ·unfold Chn.aboveK
    split
    ·rename_i ha
     obtain⟨h1,h2⟩:=hd.2 ha
     refine dV ?_ ?_ trivial (by show 2<k0;omega)<;>(unfold Chn.linkI;dsimp only at *;omega)
    ·split
     ·exact fp hy aK
     ·exact fp aK qQ
theorem Dt{base most:Int}{k:Chn.K}(hb:Chn.inB base most)(hok:Chn.OkK most k)(hv:okV most k)(v:Int)(hvv:aI v):nS base most (sD most k) (Chn.goK base most k v):=by
 have hb0:=hb
 obtain⟨b0,b1,m0,m1⟩:=hb
 cases k with
 | least=>exact dV (by omega) (by omega) trivial (by show 2<3;omega)
 | len=>exact dV (by omega) (by omega) trivial (by show(most-0).toNat+1<most.toNat+2;omega)
 | start call k=>exact dV (by omega) (by omega) ⟨hv,by omega⟩ (by show 2*(most-0).toNat+7<2*most.toNat+8;omega)
 | keyOf =>
  simp only[Chn.goK]
  split
  ·rename_i h
   obtain⟨h1,h2⟩:=h
   refine dV ?_ ?_ trivial (by show 1<2;omega)<;>(unfold Chn.keyI;omega)
  ·exact fp aK qQ
 | keyOf1=>exact fp hvv aK
 | counts n =>
  obtain⟨n0,n1⟩:=hok
  simp only[Chn.goK]
  split
  ·rename_i h
   obtain⟨⟨h1,h2⟩,h3⟩:=h
   refine dV ?_ ?_ trivial (by show(most-(n+1)).toNat+1<(most-n).toNat+1;omega)<;>(unfold Chn.linkI;omega)
  ·exact fp (by unfold aI;omega) aK
 | goes call k cell n =>
  obtain⟨q1,q2,q3⟩:=hok
  simp only[Chn.goK]
  split
  ·rename_i h
   obtain⟨⟨h1,h2⟩,h3⟩:=h
   refine dV ?_ ?_ ⟨hv.1,hv.2,hvv⟩ (by show 2*(most-n).toNat+6<2*(most-n).toNat+7;omega)<;>(unfold Chn.keyI;omega)
  ·exact wC hb0 ⟨q1,fun e=>by cases e⟩ hv.1 hv.2 hvv aK (by show 7<=2*(most-n).toNat+7;omega)
 | goes1 call k cell n p =>
  obtain⟨q1,q2,q3,q4⟩:=hok
  obtain⟨v1,v2,v3⟩:=hv
  simp only[Chn.goK]
  split
  ·exact wC hb0 ⟨q1,fun _=>q4⟩ v1 v2 v3 hvv (by show 7<=2*(most-n).toNat+6;omega)
  ·obtain⟨h1,h2⟩:=q4
   refine dV ?_ ?_ ⟨v1,?_⟩ (by show 2*(most-(n+1)).toNat+7<2*(most-n).toNat+6;omega)<;>(unfold Chn.linkI;omega)
 | addF k d =>
  simp only[Chn.goK]
  split
  ·rename_i h
   obtain⟨h1,h2⟩:=h
   refine dV ?_ ?_ hv (by show 5<6;omega)<;>(unfold Chn.linkI;omega)
  ·exact dV (by omega) (by omega) hv (by show 5<6;omega)
 | addQ k d f=>exact gP (by omega) (by omega) hvv hv (by show 4<5;omega)
 | addU k d =>
  simp only[Chn.goK]
  split
  ·exact fp aK zI
  ·exact gP (by omega) (by omega) (by unfold aI;omega) hv (by show 4<5;omega)
 | delQ d =>
  obtain⟨⟨⟨c0,c1⟩,-⟩,-⟩:=hok
  obtain⟨v1,v2⟩:=hv
  exact gP (by omega) (by omega) hvv ⟨v1,v2⟩ (by show 4<5;omega)
 | delF d =>
  obtain⟨-,h1,h2⟩:=hok
  refine gP ?_ ?_ hvv hv.2 (by show 2<3;omega)<;>(unfold Chn.linkI;omega)
 | done x=>exact⟨.inl hv⟩
 | put t =>
  cases t with
  | lays1 k d f =>
   obtain⟨-,h1,h2⟩:=hok
   refine gP ?_ ?_ hv.1 hv (by show 3<4;omega)<;>(unfold Chn.keyI;omega)
  | lays2 k d u =>
   obtain⟨-,h1,h2⟩:=hok
   refine gP ?_ ?_ hv.1 hv (by show 3<4;omega)<;>(unfold Chn.keyI;omega)
  | key k d node =>
   obtain⟨-,h1,h2⟩:=hok
   refine gP ?_ ?_ hv.2.2 hv.2.1 (by show 2<3;omega)<;>(unfold Chn.linkI;omega)
  | link k d node =>
   obtain⟨⟨⟨c0,c1⟩,-⟩,h1,h2⟩:=hok
   have hv:d.cell<=2*most+2:=hv
   exact gP (by omega) (by omega) (by unfold aI;omega) trivial (by show 1<2;omega)
  | fin=>exact fp aK aK
  | delW d=>exact dV (by omega) (by omega) hv (by show 3<4;omega)
  | delL d=>exact gP (by omega) (by omega) hv trivial (by show 1<2;omega)
  | delFin=>exact fp aK aK
theorem iQ{base most:Int}(hb:Chn.inB base most):∀ (n:Nat) (k:Chn.K),sD most k<=n->Chn.OkK most k->okV most k->jz rk (base+(2*most+3)) n ⟨base,most,k⟩
 | 0,k,hl,_,_=>by
  exfalso
  unfold sD at hl
  split at hl<;>omega
 | n+1,k,hl,hok,hv=>chn_of fun v hvv=>by
  rcases(Dt hb hok hv v hvv).one with h|⟨h1,h2,h3,h4,h5,h6⟩
  ·exact .inl h
  ·exact .inr ⟨h1,h2,h3,h4,iQ hb n _ (by omega) (Chn.ok_step hb hok v) h5⟩
theorem Du{base most call:Int}{xs:List Int}(hb:Chn.inB base most)(hx:∀ x∈xs,aI x):jz rk (base+(2*most+3)) 40 (Chn.initM base most call xs):=by
 have hv0:aI (xs.getD 0 0):=by
  cases xs with
  | nil=>exact aK
  | cons a l=>exact hx a List.mem_cons_self
 have hm:=hb.2.2
 unfold Chn.initM
 split
 ·exact iQ hb 40 _ (by show 3<=40;omega) trivial trivial
 ·split
  ·exact iQ hb 40 _ (by show most.toNat+2<=40;omega) trivial trivial
  ·exact iQ hb 40 _ (by show 2*most.toNat+8<=40;omega) trivial hv0
section
variable {w0:World}{X:List Nat}{Cs:List aw}{w:World}{x:Nat}{k:cl}{f:PF}{st cs ts:List Int}
theorem tQ:(Tryz.prog.info? 74).map (·.size)=some 3:=by kernel_rfl
def AE(n e:Int)(v:Value):Value:=.agg #[.int .i64 n,.int .i64 e,v]
def AF(n e:Int)(v:Value):Obj:=.cells #[.int .i64 n,.int .i64 e,v] 74 (0,0)
theorem rp(hS:ah w0 X (ag x (bm k f)::Cs) w)(h:f.over=false) :
  Calls Tryz.prog 21 #[ptr x] w (fun e w'=>e=.returned (.tuple #[AE 0 0 (.slice none 0 0),.bool false])/\ah w0 X (ag x (bm k f)::Cs) w'):=by
 have S1:=hS.new (AF 0 0 (.slice none 0 0))
 have c23:=hS.cell 23
 simp only[aH,gA,gZ,gS,h]at c23
 have hlt:=af hS.h0
 have HS:=kH S1
 clear hS S1 h
 unfold ptr AF at *
 go_enter Tryz.func21,Tryz.ntmps21
 go_wp2
 refine bodyPost_ret (fF (p:=2) (u:=3) rfl _ _ _ _ _ _ _ rfl HS.out.h0 Tryz.underlying74 rfl tQ) rfl ⟨rfl,HS.out.drop⟩
theorem rD{v:Value}{xs:List Int}(hS:ah w0 X Cs w)(hr:aD w 2 1 v xs.length (bz xs))(hl:xs.length<=1000000) :
  Calls Tryz.prog 35 #[v] w (fun e w'=>∃ v',e=.returned v'/\ah w0 X (cI v' xs::Cs) w'):=by
 rcases hr.parts with⟨rfl,h2,-⟩|⟨g,cap,rfl,hnc,hcm,hg,hcell⟩
 ·obtain rfl:xs=[]:=List.eq_nil_of_length_eq_zero h2
  refine(Tryz.Clone_i64_nil 0 0 w).mono ?_
  rintro e w' ⟨rfl,rfl⟩
  exact⟨_,rfl,hS.nilRow _ _⟩
 ·exact jY hS g 0 xs.length cap xs rfl hl (fun j u hu=>by rw[Nat.zero_add];exact hcell j u hu)
theorem nO(hS:ah w0 X (pC x k f st cs ts Cs) w)(h:f.over=true)(hts:ts.length<=1000) :
  Calls Tryz.prog 21 #[ptr x] w (fun e w'=>∃ a n c,e=.returned (.tuple #[AE f.nth f.err (.slice a n c),.bool true])/\ah w0 X (pC x k f st cs ts Cs) w'):=by
 have S1:ah w0 X (pC x k f st cs ts (ag w.heap.size (AF 0 0 (.slice none 0 0))::Cs)) (w.alloc (AF 0 0 (.slice none 0 0))):=(hS.new (AF 0 0 (.slice none 0 0))).push [_,_,_,_,_]
 have c11:=hS.cell 11
 have c18:=hS.cell 18
 have c23:=hS.cell 23
 have c24:=hS.cell 24
 simp only[aH,gA,gZ,gS,h]at c11 c18 c23 c24
 have hlt:=af hS.h0
 have HS1:=kH S1
 clear hS S1
 unfold ptr AF at *
 go_enter Tryz.func21,Tryz.ntmps21
 go_wp2_with fail
 go_region
 have S2:=(HS1.out.new (.cells #[.int .i64 f.nth,.int .i64 f.err,.slice none 0 0] 74 (0,0))).drew
 rw[show(w.alloc (.cells #[.int .i64 0,.int .i64 0,.slice none 0 0] 74 (0,0))).heap.size=w.heap.size+1 by simp]at S2
 clear c11 c18 c23 c24 hlt HS1
 generalize ((w.alloc (.cells #[.int .i64 0,.int .i64 0,.slice none 0 0] 74 (0,0))).alloc (.cells #[.int .i64 f.nth,.int .i64 f.err,.slice none 0 0] 74 (0,0))).drew=W2 at *
 have hrow:aD W2 2 1 f.tv ts.length (bz ts):=(S2.pull [_,_,_,_]).h0
 have HC:=kH (rD S2 hrow (by omega))
 have S3:=S2.pull [_]
 have d18:=S3.cell 18
 have d24:=S3.cell 24
 simp only[aH,gA,gZ,gS]at d18 d24
 have hlt:=af S3.h0
 have x0:=S2.cell 0
 have x1:=S2.cell 1
 have x2:=S2.cell 2
 have z2:=S2.froz 2
 have S4:=S2.pull [_,_,_,_,_,_]
 have y0:=S4.cell 0
 have y1:=S4.cell 1
 have y2:=S4.cell 2
 have v0:=S4.froz 0
 have v1:=S4.froz 1
 have v2:=S4.froz 2
 simp only[gA,gZ,gS]at x0 x1 x2 y0 y1 y2
 have hlt1:=af S2.h0
 have hlt2:=af S4.h0
 have HS2:=kH S2
 clear S2 S3 S4 hrow
 by_cases he:f.err=0
 ·have he':(f.err == 0)=true:=by simp[he]
  go_wp2_with fail
  refine HC.out.mono ?_
  rintro e w1 ⟨v',rfl,S5⟩
  have hv:∃ a c,v'=.slice a ts.length c:=by
   obtain⟨a,c,h,-⟩:=(S5.h0:aD w1 2 1 v' ts.length (bz ts)).slice
   exact⟨a,c,h⟩
  obtain⟨a,c,rfl⟩:=hv
  have S6:=S5.drop
  have x0:=S6.cell 0
  have x1:=S6.cell 1
  have x2:=S6.cell 2
  have z2:=S6.froz 2
  have S4:=S6.pull [_,_,_,_,_,_]
  have y0:=S4.cell 0
  have y1:=S4.cell 1
  have y2:=S4.cell 2
  have v0:=S4.froz 0
  have v1:=S4.froz 1
  have v2:=S4.froz 2
  simp only[gA,gZ,gS]at x0 x1 x2 y0 y1 y2
  have hlt1:=af S6.h0
  have hlt2:=af S4.h0
  have HS6:=kH S6
  clear S4 S5 S6
  go_wp2
  have S7:=((((HS6.out.set 2 (.slice a ts.length c)).pull [_,_,_,_,_,_]).set 0 (.int .i64 f.nth)).set 1 (.int .i64 0)).set 2 (.slice a ts.length c)
  refine bodyPost_ret (fF (p:=2) (u:=3) rfl _ _ _ _ _ _ _ rfl S7.h0 Tryz.underlying74 rfl tQ) rfl ⟨a,ts.length,c,by rw[he];rfl,S7.drop.drop⟩
 ·have he':(f.err == 0)=false:=by simp[he]
  go_wp2
  have S7:=(((HS2.out.pull [_,_,_,_,_,_]).set 0 (.int .i64 f.nth)).set 1 (.int .i64 f.err)).set 2 (.slice none 0 0)
  refine bodyPost_ret (fF (p:=2) (u:=3) rfl _ _ _ _ _ _ _ rfl S7.h0 Tryz.underlying74 rfl tQ) rfl ⟨none,0,0,rfl,S7.drop.drop⟩
end
section
variable {w0:World}{X:List Nat}{Cs:List aw}{w:World}
structure SW where
 raw:Int
 ring:Int
 writes:Int
 stamps:Int
 multi:Bool
 tries:Int
 rv:Value
 pv:Value
 mp:Nat
 tv:Value
 ev:Value
 opened:Int
 steps:Int
def lX(s:SW):Array Value:=#[.int .i64 s.raw,.int .i64 s.ring,.int .i64 s.writes,.int .i64 s.stamps,.bool s.multi,.int .i64 s.tries,s.rv,s.pv,ptr s.mp,s.tv,s.ev,.int .i64 s.opened,.int .i64 s.steps]
def eH(s:SW):Obj:=.cells (lX s) 59 (0,0)
structure ST where
 jv:Value
 jp:Value
 taken:Int
 tx:Int
 stamp:Int
 ov:Value
 steps:Int
 waits:Int
def gt(s:ST):Array Value:=#[s.jv,s.jp,.int .i64 s.taken,.int .i64 s.tx,.int .i64 s.stamp,s.ov,.int .i64 s.steps,.int .i64 s.waits]
def fD(s:ST):Obj:=.cells (gt s) 65 (0,0)
structure BB where
 opened:Int
 tx:Int
 stamp:Int
def eu(s:BB)(e:bM):BB:=if e.kind=7 then⟨s.opened+1,s.opened,s.stamp⟩else if e.kind=4 then {s with stamp:=e.stamp} else if e.kind=5 then {s with stamp:=0} else s
def Cf(at_ th:Int)(s:BB)(e:bM):dh:=⟨at_,th,(eu s e).tx,e⟩
def dF(at_ th:Int):BB->List bM->List dh
 | _,[]=>[]
 | s,e::l=>Cf at_ th s e::dF at_ th (eu s e) l
theorem sc(at_ th:Int)(e:bM):∀ (l:List bM) (s:BB),dF at_ th s (l++[e])=dF at_ th s l++[Cf at_ th (l.foldl eu s) e]
 | [],_=>rfl
 | d::l,s=>by
  show Cf at_ th s d::dF at_ th (eu s d) (l++[e])=_
  rw[sc at_ th e l]
  rfl
theorem nX(at_ th:Int):∀ (l:List bM) (s:BB),(dF at_ th s l).length=l.length
 | [],_=>rfl
 | d::l,s=>by
  show(dF at_ th (eu s d) l).length+1=l.length+1
  rw[nX at_ th l]
theorem xr(e:bM)(s:BB):s.opened<=(eu s e).opened/\(eu s e).opened<=s.opened+1:=by
 unfold eu
 repeat' split
 all_goals exact⟨by first|omega|(dsimp only;omega),by first|omega|(dsimp only;omega)⟩
theorem nW:∀ (l:List bM) (s:BB),s.opened<=(l.foldl eu s).opened/\(l.foldl eu s).opened<=s.opened+l.length
 | [],s=>⟨Int.le_refl _,by simp⟩
 | e::l,s=>by
  have h1:=xr e s
  have h2:=nW l (eu s e)
  simp only[List.foldl_cons,List.length_cons]
  omega
theorem uQ{l:List bM}{i:Nat}(h:i<l.length):l.take (i+1)=l.take i++[l[i]]:=List.take_succ_eq_append_getElem h
theorem ah.wset{s s':SW}{wb:Nat}(h:ah w0 X (ag wb (eH s)::Cs) w)(i:Nat)(v:Value)(he:(lX s).setIfInBounds i v=lX s'):ah w0 X (ag wb (eH s')::Cs) (w.setCell ⟨wb,i,none⟩ v):=by
 have h6:=h.set i v
 rw[he]at h6
 exact h6
theorem ah.tset{s s':ST}{tb:Nat}(h:ah w0 X (ag tb (fD s)::Cs) w)(i:Nat)(v:Value)(he:(gt s).setIfInBounds i v=gt s'):ah w0 X (ag tb (fD s')::Cs) (w.setCell ⟨tb,i,none⟩ v):=by
 have h6:=h.set i v
 rw[he]at h6
 exact h6
theorem ah.eqB{A B:Array Value}{t:TypeId}{g:Nat}(h:ah w0 X (ag g (.cells A t (0,0))::Cs) w)(e:A=B):ah w0 X (ag g (.cells B t (0,0))::Cs) w:=e▸h
class zX(w:World)(g o:Nat)(cs:outParam (List Value)):Prop where
 at_:w.rangeAt g o cs
 len:cs.length=19
class EvCs(cs:List Value):Prop where
 len:cs.length=19
 one:∀ v∈cs,v.oneCell'=true
def zn(p v:Value):Sem Unit:=Instr.storeAt 44 p v
theorem qg(p v:Value):Instr.storeAt 44 p v=zn p v:=rfl
theorem oT{w:World}{c:Array Value}{cs:List Value} [h:EvCs cs](hc:c.size=19):(zn (.pointer (some ⟨w.heap.size,0,none⟩)) (.agg cs.toArray)).run Tryz.prog (w.alloc (.cells c 44 (0,0)))=.ok () (w.alloc (.cells cs.toArray 44 (0,0))):=by
 obtain⟨i0,yi,yz0,yz1,yz2⟩:=info_parts gf
 have hz:cs.toArray.size=19:=h.len
 exact run_storeAt_new w _ c cs.toArray (by rw[yi,hz,<-yz1];rfl) (by rw[hc,hz]) (all_oneCell_toArray h.one)
theorem oY{w:World}{g o:Nat}{cs:List Value} [h:zX w g o cs]:(qM (.pointer (some ⟨g,o,none⟩))).run Tryz.prog w=.ok (.agg cs.toArray) w:=by
 obtain⟨i0,yi,yz0,yz1,yz2⟩:=info_parts gf
 unfold qM Instr.loadAt
 have e:=run_loadVar_mid (P:=Tryz.prog) w g o 44 cs _ h.at_ Tryz.underlying44 rfl (by rw[yi,h.len,<-yz1];rfl)
 simp only[Instr.sureAddr,Sem.run_bind,Sem.run_pure,Result.andThen_ok,e]
theorem ev_at(l:List dh)(i:Nat)(h:i<l.length):∀ j u,(fO l[i])[j]?=some u->(aL l)[i*19+j]?=some u:=by
 intro j u hu
 have hj:j<19:=by
  have:=(List.getElem?_eq_some_iff.1 hu).1
  rwa [pN]at this
 have e:l=l.take i++l[i]::l.drop (i+1):=by rw[<-List.drop_eq_getElem_cons h,List.take_append_drop]
 have e2:aL l=aL (l.take i)++(fO l[i]++aL (l.drop (i+1))):=by
  refine(congrArg aL e).trans ?_
  unfold aL
  rw[List.flatMap_append,List.flatMap_cons]
 have hl:(aL (l.take i)).length=i*19:=by rw[fP,List.length_take];congr 1;omega
 rw[e2,List.getElem?_append_right (by omega),hl,show i*19+j-i*19=j by omega,List.getElem?_append_left (by rw[pN];exact hj)]
 exact hu
theorem bareRow{W:World}{Y:List Nat}{Ds:List aw}{w1:World}{ev:Value}{L:List bM}(h:ah w1 Y (bW ev (bb L)::Ds) W):∃ a c,ev=.slice a L.length c/\L.length<=c/\c<=maxLen:=by
 have hr:aD W 44 19 ev (bb L).length (aL (bb L)):=h.h0
 have e:(bb L).length=L.length:=by simp[bb]
 rw[e]at hr
 exact hr.slice
def pR(w0:World)(X:List Nat)(Cs:List aw)(v:Value)(L:List bM)(l:List dh)(s:SW)(u:ST)(wb tb:Nat)(th:Int)(i:Nat)(ev':Value)(wr:World):Prop :=
 ah w0 X (bW v (bb L)::ag wb (eH {s with ev:=ev',opened:=((L.take i).foldl eu ⟨s.opened,u.tx,u.stamp⟩).opened})::bW ev' (l++dF s.steps th ⟨s.opened,u.tx,u.stamp⟩ (L.take i)) ::
  ag tb (fD {u with taken:=u.taken+i,tx:=((L.take i).foldl eu ⟨s.opened,u.tx,u.stamp⟩).tx,stamp:=((L.take i).foldl eu ⟨s.opened,u.tx,u.stamp⟩).stamp})::Cs) wr
attribute [local go_sem] ip
attribute [local go_sem ↓] oA qg
attribute [local go_sem] mh oY oT
theorem uP{P:List aw->Prop}{L:List bM}{l:List dh}{s:SW}{u:ST}{wb tb:Nat}(hS:ah w0 X (ag wb (eH s)::bW s.ev l::ag tb (fD u)::Cs) w)
  (hT:∀ W,ah w0 X (ag wb (eH s)::bW s.ev l::ag tb (fD u)::Cs) W->Calls Tryz.prog 46 #[u.jp,.int .i64 u.taken] W (fun e w'=>∃ ev Cs',P Cs'/\e=.returned ev/\ah w0 X (bW ev (bb L)::ag wb (eH s)::bW s.ev l::ag tb (fD u)::Cs') w'))
  (hL:L.length<=1000) (hl:l.length<=1073740000) (ho:0<=s.opened/\s.opened<=1099511627776) (hu:0<=u.taken/\u.taken<=1099511627776) (th:Int) :
  Calls Tryz.prog 20 #[ptr wb,ptr tb,.int .i64 th] w (fun e w'=>e=.returned (.tuple #[])/\∃ ev' Cs',P Cs' /\
   ah w0 X (ag wb (eH {s with ev:=ev',opened:=(L.foldl eu ⟨s.opened,u.tx,u.stamp⟩).opened})::bW ev' (l++dF s.steps th ⟨s.opened,u.tx,u.stamp⟩ L) ::
    ag tb (fD {u with taken:=u.taken+L.length,tx:=(L.foldl eu ⟨s.opened,u.tx,u.stamp⟩).tx,stamp:=(L.foldl eu ⟨s.opened,u.tx,u.stamp⟩).stamp})::Cs') w'):=by
 have c1:=(hS.pull [_,_]).cell 1
 have c2:=(hS.pull [_,_]).cell 2
 simp only[gt,gA,gZ,gS]at c1 c2
 have hlt:=af hS.h0
 have hltt:=af (hS.pull [_,_]).h0
 have HT0:=kH (hT _ hS)
 have HT:=kH (fun q=>hT _ (hS.drewN q))
 have HT1:=kH (hT _ hS.drew)
 have hlT:=fun {W:World} {ev:Value} {Cs'} (S:ah w0 X (bW ev (bb L)::Cs') W)=>bareRow S
 obtain⟨jp,hjp⟩:∃ jp,u.jp=jp:=⟨_,rfl⟩
 have HJP:=kH hjp
 rw[hjp]at c1 HT HT0 HT1 ⊢
 clear hS hT hjp
 unfold ptr at *
 go_enter Tryz.func20,Tryz.ntmps20
 go_wp2_with fail
 go_region_held3 (fun w'=>w'.cell? ⟨tb,1,none⟩=some jp/\w'.cell? ⟨tb,2,none⟩=some (.int .i64 u.taken)) (go_keep) (first|(go_at_call 46;(first|refine HT0.out.mono ?_|refine HT1.out.mono ?_|refine(HT.out _).mono ?_);rintro e1 w1 ⟨ev,Cs1,hP,rfl,S1⟩;obtain⟨a,cap,rfl,hcn,hcm⟩:=hlT S1;have d1:=(S1.pull [_,_,_]).cell 1;have d2:=(S1.pull [_,_,_]).cell 2;simp only[gt,gA,gZ,gS,HJP.out]at d1 d2;have HS1:=kH S1;clear S1))
 all_goals
  clear hlT HT HT0 HT1 c1 c2 d1 d2
  try simp only[Act.put,List.setIfInBounds_toArray,List.set_cons_succ,List.set_cons_zero,List.getElem_toArray,List.getElem_cons_succ,List.getElem_cons_zero]
  go_wp2_with fail
  go_loopg[18] (L.length) (fun nn v18 wr=>∃ (i:Nat) (ev':Value),i<=L.length/\v18=.int .i64 i/\nn+i=L.length/\pR w0 X Cs1 (.slice a L.length cap) L l s u wb tb th i ev' wr)
  case atStart =>
   refine⟨0,s.ev,Nat.zero_le _,rfl,rfl,?_⟩
   unfold pR
   simpa[dF]using HS1.out
  case round =>
   obtain⟨i,ev',hi,rfl,hn,S⟩:=hrel
   unfold pR at S
   have HN:=kH hn
   clear hn HS1
   by_cases hlt2:i<L.length
   ·have hrow:aD wr 44 19 (.slice a L.length cap) (bb L).length (aL (bb L)):=S.h0
    have hbl:(bb L).length=L.length:=by simp[bb]
    rcases hrow.parts with⟨q1,q2,q3⟩|⟨g,cap',hv,-,-,hg,hcell⟩
    ·omega
    injection hv with hv1 hv2 hv3
    subst hv1
    clear hv2 hv3
    have hbi:(bb L)[i]'(by omega)=du L[i]:=by simp[bb]
    have hev:zX wr g (i*19) (fO (du L[i])):=⟨fun j u hu=>hcell _ u (ev_at (bb L) i (by omega) j u (by rw[hbi];exact hu)),rfl⟩
    have HTK:=kH (show(L.take (i+1)).foldl eu ⟨s.opened,u.tx,u.stamp⟩=eu ((L.take i).foldl eu ⟨s.opened,u.tx,u.stamp⟩) L[i] by rw[uQ hlt2,List.foldl_append];rfl)
    have HTA:=kH (show dF s.steps th ⟨s.opened,u.tx,u.stamp⟩ (L.take (i+1))=dF s.steps th ⟨s.opened,u.tx,u.stamp⟩ (L.take i)++[Cf s.steps th ((L.take i).foldl eu ⟨s.opened,u.tx,u.stamp⟩) L[i]] by rw[uQ hlt2,sc])
    have hob:=nW (L.take i) ⟨s.opened,u.tx,u.stamp⟩
    have hll:(dF s.steps th ⟨s.opened,u.tx,u.stamp⟩ (L.take i)).length=i:=by rw[nX,List.length_take];omega
    rw[List.length_take]at hob
    dsimp only at hob
    generalize (L.take i).foldl eu ⟨s.opened,u.tx,u.stamp⟩=σ at *
    generalize dF s.steps th ⟨s.opened,u.tx,u.stamp⟩ (L.take i)=lt at *
    generalize L[i]=e at *
    have HSR:=kH S
    have hwt:IntKind.i64.wrap (u.taken+i+1)=u.taken+i+1:=IntWalk.i64_in _ (by omega)
    have hwo:IntKind.i64.wrap (σ.opened+1)=σ.opened+1:=IntWalk.i64_in _ (by omega)
    have S2:=((S.pull [_,_,_]).tset (s':={u with taken:=u.taken+i+1,tx:=σ.tx,stamp:=σ.stamp}) 2 (.int .i64 (u.taken+i+1)) (by simp[gt])).push [_,_,_]
    have S3:=S2.new (j8 (du e))
    rw[show(wr.setCell ⟨tb,2,none⟩ (.int .i64 (u.taken+i+1))).heap.size=wr.heap.size by simp]at S3
    have k2:=(S.pull [_,_,_]).cell 2
    have z2:=(S.pull [_,_,_]).froz 2
    simp only[gt,gA,gZ,gS]at k2
    have hltb:=af (S.pull [_,_,_]).h0
    have b3:=S3.cell 3
    have HLL:=kH hll
    have HY:=kH (show ∀ W:World,W.alloc (j8 (du e))=W.alloc (j8 (du e))from fun _=>rfl)
    obtain⟨cs,hcs⟩:∃ cs,fO (du e)=cs:=⟨_,rfl⟩
    have HCS:=kH hcs
    have hecs:EvCs cs:=hcs▸⟨rfl,lA _⟩
    have hc3:cs[3]?=some (.int .i64 e.kind):=by rw[<-hcs];rfl
    unfold j8 at S3 b3
    rw[hcs]at hev S3 b3
    simp only[gA,hc3]at b3
    have HS3:=kH S3
    clear S S2 S3 hrow hcell hbi hob hbl hll hcs hc3 HSR HY
    go_upto_region 4 with(fail)
    iterate 10 go_step
    generalize hW1:(wr.setCell ⟨tb,2,none⟩ (.int .i64 (u.taken+i+1))).alloc (.cells cs.toArray 44 (0,0))=W1 at *
    have hc9:cs[9]?=some (.int .i64 e.stamp):=by rw[<-HCS.out];rfl
    have S4:=HS3.out
    have b9:=S4.cell 9
    have r11:=(S4.pull [_,_]).cell 11
    have y11:=(S4.pull [_,_]).froz 11
    have k3:=(S4.pull [_,_,_,_]).cell 3
    have k4:=(S4.pull [_,_,_,_]).cell 4
    have z3:=(S4.pull [_,_,_,_]).froz 3
    have z4:=(S4.pull [_,_,_,_]).froz 4
    simp only[lX,gt,gA,gZ,gS,hc9]at b9 r11 k3 k4
    have hltw1:=af (S4.pull [_,_]).h0
    have hltb1:=af (S4.pull [_,_,_,_]).h0
    clear S4 hc9 hW1
    go_cut[18]from 18 to 81 (fun v18 wc=>v18=.int .i64 i/\ah w0 X (ag wr.heap.size (.cells cs.toArray 44 (0,0))::bW (.slice (some ⟨g,0,none⟩) L.length cap) (bb L)::ag wb (eH {s with ev:=ev',opened:=(eu σ e).opened})::bW ev' (l++lt)::ag tb (fD {u with taken:=u.taken+i+1,tx:=(eu σ e).tx,stamp:=(eu σ e).stamp})::Cs1) wc)
    case first =>
     have HT7:=kH (fun h:e.kind=7=>show eu σ e=⟨σ.opened+1,σ.opened,σ.stamp⟩ by unfold eu;rw[if_pos h])
     have HT4:=kH (fun(h:e.kind≠7) (h4:e.kind=4)=>show eu σ e = {σ with stamp:=e.stamp} by unfold eu;rw[if_neg h,if_pos h4])
     have HT5:=kH (fun(h:e.kind≠7) (h4:e.kind≠4) (h5:e.kind=5)=>show eu σ e = {σ with stamp:=0} by unfold eu;rw[if_neg h,if_neg h4,if_pos h5])
     have HT0:=kH (fun(h:e.kind≠7) (h4:e.kind≠4) (h5:e.kind≠5)=>show eu σ e=σ by unfold eu;rw[if_neg h,if_neg h4,if_neg h5])
     by_cases h7:e.kind=7
     ·have h7':(e.kind == 7)=true:=by simp[h7]
      have HE:=kH (HT7.out h7)
      clear h7 HTK HTA
      generalize e.kind=kind at *
      go_wp2
      go_meet
      case rel =>
       refine⟨rfl,?_⟩
       rw[HE.out]
       exact(((((HS3.out.pull [_,_,_,_]).tset (s':={u with taken:=u.taken+i+1,tx:=σ.opened,stamp:=σ.stamp}) 3 (.int .i64 σ.opened) (by simp[gt])).push [_,_,_,_]).pull [_,_]).wset (s':={s with ev:=ev',opened:=σ.opened+1}) 11 (.int .i64 (σ.opened+1)) (by simp[lX])).push [_,_]
     ·have h7':(e.kind == 7)=false:=by simp[h7]
      by_cases h4:e.kind=4
      ·have h4':(e.kind == 4)=true:=by simp[h4]
       have HE:=kH (HT4.out h7 h4)
       clear h7 h4 HTK HTA
       generalize e.kind=kind at *
       go_wp2
       go_meet
       case rel =>
        refine⟨rfl,?_⟩
        rw[HE.out]
        exact((HS3.out.pull [_,_,_,_]).tset (s':={u with taken:=u.taken+i+1,tx:=σ.tx,stamp:=e.stamp}) 4 (.int .i64 e.stamp) (by simp[gt])).push [_,_,_,_]
      ·have h4':(e.kind == 4)=false:=by simp[h4]
       by_cases h5:e.kind=5
       ·have h5':(e.kind == 5)=true:=by simp[h5]
        have HE:=kH (HT5.out h7 h4 h5)
        clear h7 h4 h5 HTK HTA
        generalize e.kind=kind at *
        go_wp2
        go_meet
        case rel =>
         refine⟨rfl,?_⟩
         rw[HE.out]
         exact((HS3.out.pull [_,_,_,_]).tset (s':={u with taken:=u.taken+i+1,tx:=σ.tx,stamp:=0}) 4 (.int .i64 0) (by simp[gt])).push [_,_,_,_]
       ·have h5':(e.kind == 5)=false:=by simp[h5]
        have HE:=kH (HT0.out h7 h4 h5)
        clear h7 h4 h5 HTK HTA
        generalize e.kind=kind at *
        go_wp2
        go_meet
        case rel =>
         refine⟨rfl,?_⟩
         rw[HE.out]
         exact HS3.out
    case rest =>
     obtain⟨rfl,S5⟩:=hcut
     have HS5:=kH S5
     have e0:cs[0]?=some (.int .i64 0):=by rw[<-HCS.out];rfl
     have e1:cs[1]?=some (.int .i64 0):=by rw[<-HCS.out];rfl
     have e2:cs[2]?=some (.int .i64 0):=by rw[<-HCS.out];rfl
     have r12:=(S5.pull [_,_]).cell 12
     have k3':=(S5.pull [_,_,_,_]).cell 3
     have b0:=S5.cell 0
     have b1:=S5.cell 1
     have b2:=S5.cell 2
     have x0:=S5.froz 0
     have x1:=S5.froz 1
     have x2:=S5.froz 2
     simp only[lX,gt,gA,gZ,gS,e0,e1,e2]at r12 k3' b0 b1 b2
     have hlt5:=af S5.h0
     have hlt6:=af (S5.pull [_,_]).h0
     have hlt7:=af (S5.pull [_,_,_,_]).h0
     have HTX:=kH (show((((cs.toArray).setIfInBounds 0 (.int .i64 s.steps)).setIfInBounds 1 (.int .i64 th)).setIfInBounds 2 (.int .i64 (eu σ e).tx))=(fO (Cf s.steps th σ e)).toArray by rw[<-HCS.out];simp[fO,Cf,du])
     clear S5 e0 e1 e2 hev hecs b3 b9 r11 y11 k2 z2 k3 k4 z3 z4
     generalize eu σ e=σ' at *
     generalize Cf s.steps th σ e=y at *
     generalize hbx:wr.heap.size=bx at *
     go_wp2_with fail
     go_region
     have S6:=((((HS5.out.set 0 (.int .i64 s.steps)).set 1 (.int .i64 th)).set 2 (.int .i64 σ'.tx)).eqB HTX.out).drew
     generalize (((wc.setCell ⟨bx,0,none⟩ (.int .i64 s.steps)).setCell ⟨bx,1,none⟩ (.int .i64 th)).setCell ⟨bx,2,none⟩ (.int .i64 σ'.tx)).drew=W2 at *
     obtain⟨i0,yi,yz0,yz1,yz2⟩:=info_parts gf
     have HE:=kH (o9 (l++lt) y)
     have HLN:=kH (show(l++lt).length=l.length+i by rw[List.length_append,HLL.out])
     have HONE:=kH (lA y)
     have HL19:=kH (pN y)
     have HNW:Hid (∀ (W:World) (n:Nat) (u:Value),(fO y)[n]?=some u->(W.alloc (.cells (fO y).toArray 44 (0,0))).cell? ((⟨W.heap.size,0,none⟩:Addr).add n)=some u):=fun W n u hu=>cG (ar rfl) n u (by simpa using hu)
     have HYY:=kH (rfl:fO y=fO y)
     obtain⟨a0,a1,a2,a3,a4,a5,a6,a7,a8,a9,a10,a11,a12,a13,a14,a15,a16,a17,a18,hnews⟩:∃ a0 a1 a2 a3 a4 a5 a6 a7 a8 a9 a10 a11 a12 a13 a14 a15 a16 a17 a18,fO y=[a0,a1,a2,a3,a4,a5,a6,a7,a8,a9,a10,a11,a12,a13,a14,a15,a16,a17,a18]:=⟨_,_,_,_,_,_,_,_,_,_,_,_,_,_,_,_,_,_,_,rfl⟩
     rw[hnews]at S6 HE HONE HL19 HNW
     have HROW:Hid (aD W2 44 19 ev' (l++lt).length (aL (l++lt))):=(S6.pull [_,_,_]).h0
     have hblk:zY W2.drew bx #[a0,a1,a2,a3,a4,a5,a6,a7,a8,a9,a10,a11,a12,a13,a14,a15,a16,a17,a18]:=⟨S6.h0,rfl⟩
     have k10:=(S6.pull [_,_]).cell 10
     simp only[lX,gA,gZ,gS]at k10
     have hlt8:=af (S6.pull [_,_]).h0
     have HS6:=kH S6
     generalize hlen:(l++lt).length=n at *
     have HLEN:=kH hlen
     have hn8:n<=1073741000:=by have:=HLN.out;omega
     generalize hxs:aL (l++lt)=xs at *
     have HXS:=kH hxs
     clear S6 hnews hlen hxs
     go_wp2_with fail
     go_region_law(refine step_append_lies _ rfl (.tmp 75) (.tmp 77) 37 rfl 0 44 i0 _ 19 152 Tryz.underlying37 yi yz0 yz1 yz2 rfl (by decide) ev' n xs rfl (World.ownsRow.alloc (w:=W2.drewN _) HROW.out _) ⟨W2.heap.size,0,none⟩ 1 1 [a0,a1,a2,a3,a4,a5,a6,a7,a8,a9,a10,a11,a12,a13,a14,a15,a16,a17,a18] rfl (by rw[HL19.out]) (HNW.out _) HONE.out (by decide) (by unfold maxLen;omega) (by omega) (Nat.zero_le _) _ rfl ?_;intro g5 cap5 w5 hown5 hgrow5 hat5 hgl5;have S8:=(((HS6.out.drewN _).alloc _).pull [_,_,_]).append hgrow5 hown5 hat5 (Nat.le_refl _);have hcf5:=(S8.pull [_,_,_]).froz 10;have hcc5:=(S8.pull [_,_,_]).cell 10;simp only[lX,gA,gZ,gS]at hcc5;have HS8:=kH S8;clear S8)
     all_goals
      go_wp2
      go_roundg (L.length-(i+1))
      case measure=>have:=HN.out;omega
      case rel =>
       refine⟨i+1,.slice (some ⟨g5,0,none⟩) (n+1) cap5,by omega,by go_num,by have:=HN.out;omega,?_⟩
       unfold pR
       rw[HTK.out,HTA.out,<-List.append_assoc,show u.taken+((i+1:Nat):Int)=u.taken+i+1 by omega]
       have S9:=((HS8.out.sw.drop.pull [_,_]).wset (s':={s with ev:=.slice (some ⟨g5,0,none⟩) (n+1) cap5,opened:=σ'.opened}) 10 (.slice (some ⟨g5,0,none⟩) (n+1) cap5) (by simp[lX])).f2
       show ah w0 X (_::_::aN _ _ _ (l++lt++[y]).length (aL (l++lt++[y]))::_) _
       rw[<-HE.out,show(l++lt++[y]).length=n+1 by rw[List.length_append,HLEN.out];rfl]
       exact S9
   ·obtain rfl:i=L.length:=by omega
    go_wp2
    go_end0
    rw[List.take_length]at S
    obtain rfl:=HJP.out
    exact⟨rfl,ev',Cs1,hP,S.drop⟩
end
end Go.Proofs.YtgfogfciobmmpaaGreatDoor
