/- A part of the proof of the law TopTells: Ask2 Outc Take May. -/
import Derived.Test.YtgfogfciobmmpaaGreatDoorPBk
import Derived.Deep.MidRow
import Derived.Deep.WholeRow
import Derived.Deep.RegionLaw
import Derived.Deep.RegionHeld3
import Derived.Deep.CutRange
set_option linter.unusedSimpArgs false
set_option linter.unusedVariables false
set_option maxRecDepth 100000
set_option maxHeartbeats 8000000
namespace Go.Proofs.YtgfogfciobmmpaaGreatDoor
section
open Go.RowKit
def GoodR (K:AskK) (hi:Int) (n:Nat) (r:WantS×K.S):Prop :=
 (r.1.kind=6∧I64 r.1.value∧I64 r.1.code)∨((r.1.kind=2∨r.1.kind=3)∧0≤r.1.cell∧r.1.cell < hi∧I64 r.1.value∧Good K hi n r.2)
theorem que_of {hi:Int} {n:Nat} {m:Que.MS} (h:∀ v,I64 v→GoodR askQue hi n (Que.goM m v)):Good askQue hi (n+1) m:=h
theorem chn_of {hi:Int} {n:Nat} {b mo:Int} {k:Chn.K} (h:∀ v,I64 v→GoodR askChn hi n ((Chn.goK b mo k v).1,⟨b,mo,(Chn.goK b mo k v).2⟩)):Good askChn hi (n+1) ⟨b,mo,k⟩:=h
theorem GoodR.fin {K:AskK} {hi:Int} {n:Nat} {x:WantS} {m:K.S} (h6:x.kind=6) (hv:I64 x.value) (hc:I64 x.code):GoodR K hi n (x,m):=.inl ⟨h6,hv,hc⟩
theorem GoodR.read {K:AskK} {hi:Int} {n:Nat} {c:Int} {m:K.S} (h0:0≤c) (h1:c < hi) (h:Good K hi n m):GoodR K hi n (readS c,m):=.inr ⟨.inl rfl,h0,h1,i64_0,h⟩
theorem GoodR.put {K:AskK} {hi:Int} {n:Nat} {c v:Int} {m:K.S} (h0:0≤c) (h1:c < hi) (hv:I64 v) (h:Good K hi n m):GoodR K hi n (putS c v,m):=.inr ⟨.inr rfl,h0,h1,hv,h⟩
theorem i64_1:I64 1:=by unfold I64;omega
theorem i64_2:I64 2:=by unfold I64;omega
theorem i64_3:I64 3:=by unfold I64;omega
theorem behind_i64 {f k n:Int} (h1:1≤n) (h2:n≤16):I64 (Que.behindI f k n):=by
 have:=Que.behind_bounds f k n h1
 unfold I64
 omega
theorem que_good {base most call:Int} {xs:List Int} (hb:0≤base) (hm:0≤most∧most≤16) (hx:∀ x∈xs,I64 x):Good askQue (base+(most+2)) 6 (Que.initM base most call xs):=by
 have hv0:I64 (xs.getD 0 0):=by
   cases xs with
   | nil=>exact i64_0
   | cons a l=>exact hx a List.mem_cons_self
 unfold Que.initM
 generalize xs.getD 0 0=a at *
 refine que_of fun v _=>.read hb (by show base < _;omega) ?_
 refine que_of fun f _=>.read (by show 0≤base+1;omega) (by show base+1 < _;omega) ?_
 refine que_of fun l hl=>?_
 show GoodR askQue _ _ (Que.lenM ⟨⟨base,most,call,a,f,0⟩,2,Go.Proofs.YtgfogfciobmmpaaGreatDoor.w0⟩ l)
 unfold Que.lenM
 dsimp only
 by_cases h5:call=5
 · rw [if_pos h5]
   exact .fin rfl hl i64_0
 · rw [if_neg h5]
   by_cases h3:call=3
   · rw [if_pos h3]
     by_cases hf:most≤Que.u64 l
     · rw [if_pos hf]
       exact .fin rfl i64_0 i64_2
     · rw [if_neg hf]
       have hl0:=Que.u64_bounds l
       have hbd:=Que.behind_bounds f (Que.u64 l) most (by omega)
       refine .put (by omega) (by omega) hv0 ?_
       refine que_of fun u _=>.put (by show 0≤base+1;omega) (by show base+1 < _;omega) (i64_w _) ?_
       exact que_of fun u _=>.fin rfl i64_0 i64_0
   · rw [if_neg h3]
     by_cases hz:l=0∨most=0
     · rw [if_pos hz]
       exact .fin rfl i64_0 i64_1
     · rw [if_neg hz]
       have hbd:=Que.behind_bounds f 0 most (by omega)
       refine .read (by omega) (by omega) ?_
       refine que_of fun u hu=>.put hb (by show base < _;omega) (behind_i64 (by show 1≤most;omega) hm.2) ?_
       refine que_of fun u' _=>.put (by show 0≤base+1;omega) (by show base+1 < _;omega) (i64_w _) ?_
       exact que_of fun u' _=>.fin rfl hu i64_0
def okV (most:Int):Chn.K→Prop
 | .least=>True
 | .len=>True
 | .start _ k=>I64 k
 | .keyOf=>True
 | .keyOf1=>True
 | .counts _=>True
 | .goes _ k cell _=>I64 k∧cell≤2 * most+2
 | .goes1 _ k cell _ p=>I64 k∧cell≤2 * most+2∧I64 p
 | .addF k d=>I64 k∧d.cell≤2 * most+2∧I64 d.p
 | .addQ k d _=>I64 k∧d.cell≤2 * most+2∧I64 d.p
 | .addU k d=>I64 k∧d.cell≤2 * most+2∧I64 d.p
 | .delQ d=>d.cell≤2 * most+2∧I64 d.p
 | .delF d=>d.cell≤2 * most+2∧I64 d.p
 | .put (.lays1 k d _)=>I64 k∧d.cell≤2 * most+2∧I64 d.p
 | .put (.lays2 k d _)=>I64 k∧d.cell≤2 * most+2∧I64 d.p
 | .put (.key k d _)=>I64 k∧d.cell≤2 * most+2∧I64 d.p
 | .put (.link _ d _)=>d.cell≤2 * most+2
 | .put .fin=>True
 | .put (.delW d)=>d.cell≤2 * most+2∧I64 d.p
 | .put (.delL d)=>I64 d.p
 | .put .delFin=>True
 | .done x=>x.kind=6∧I64 x.value∧I64 x.code
def leftK (most:Int):Chn.K→Nat
 | .least=>3
 | .len=>most.toNat+2
 | .start _ _=>2 * most.toNat+8
 | .keyOf=>2
 | .keyOf1=>1
 | .counts n=>(most - n).toNat+1
 | .goes _ _ _ n=>2 * (most - n).toNat+7
 | .goes1 _ _ _ n _=>2 * (most - n).toNat+6
 | .addF _ _=>6
 | .addQ _ _ _=>5
 | .addU _ _=>5
 | .delQ _=>5
 | .delF _=>3
 | .put (.lays1 _ _ _)=>4
 | .put (.lays2 _ _ _)=>4
 | .put (.key _ _ _)=>3
 | .put (.link _ _ _)=>2
 | .put .fin=>1
 | .put (.delW _)=>4
 | .put (.delL _)=>2
 | .put .delFin=>1
 | .done _=>1
structure ChnStep (base most:Int) (k0:Nat) (r:WantS×Chn.K):Prop where
 one:(r.1.kind=6∧I64 r.1.value∧I64 r.1.code)∨((r.1.kind=2∨r.1.kind=3)∧0≤r.1.cell∧r.1.cell < base+(2 * most+3)∧I64 r.1.value∧okV most r.2∧leftK most r.2 < k0)
theorem chs_end {base most:Int} {k0:Nat} {v c:Int} (hv:I64 v) (hc:I64 c):ChnStep base most k0 (Chn.endK v c):=⟨.inl ⟨rfl,hv,hc⟩⟩
theorem chs_read {base most:Int} {k0:Nat} {c:Int} {k:Chn.K} (h0:0≤c) (h1:c < base+(2 * most+3)) (h:okV most k) (hl:leftK most k < k0):ChnStep base most k0 (readS c,k):=⟨.inr ⟨.inl rfl,h0,h1,i64_0,h,hl⟩⟩
theorem chs_put {base most:Int} {k0:Nat} {c v:Int} {k:Chn.K} (h0:0≤c) (h1:c < base+(2 * most+3)) (hv:I64 v) (h:okV most k) (hl:leftK most k < k0):ChnStep base most k0 (putS c v,k):=⟨.inr ⟨.inr rfl,h0,h1,hv,h,hl⟩⟩
theorem chs_then {base most call k:Int} {d:Chn.WayD} {k0:Nat} (hb:Chn.inB base most) (hd:Chn.OkD most d) (hk:I64 k) (hc:d.cell≤2 * most+2) (hp:I64 d.p) (hy:I64 d.key) (h0:7≤k0):ChnStep base most k0 (Chn.thenK base call k d):=by
 obtain ⟨b0,b1,m0,m1⟩:=hb
 obtain ⟨c,p,st,ky,a⟩:=d
 unfold Chn.thenK
 split
 · unfold Chn.addsK
   split
   · exact chs_end i64_0 i64_3
   · exact chs_read (by omega) (by omega) ⟨hk,hc,hp⟩ (by show 6 < k0;omega)
 · split
   · unfold Chn.delsK
     split
     · rename_i ha
       obtain ⟨h1,h2⟩:=hd.2 ha
       refine chs_read ?_ ?_ ⟨hc,hp⟩ (by show 5 < k0;omega) <;> (unfold Chn.linkI;dsimp only at *;omega)
     · exact chs_end i64_0 i64_1
   · split
     · unfold Chn.hasK
       split
       · exact chs_end i64_1 i64_0
       · exact chs_end i64_0 i64_0
     · unfold Chn.aboveK
       split
       · rename_i ha
         obtain ⟨h1,h2⟩:=hd.2 ha
         refine chs_read ?_ ?_ trivial (by show 2 < k0;omega) <;> (unfold Chn.linkI;dsimp only at *;omega)
       · split
         · exact chs_end hy i64_0
         · exact chs_end i64_0 i64_1
theorem chn_step {base most:Int} {k:Chn.K} (hb:Chn.inB base most) (hok:Chn.OkK most k) (hv:okV most k) (v:Int) (hvv:I64 v):ChnStep base most (leftK most k) (Chn.goK base most k v):=by
 have hb0:=hb
 obtain ⟨b0,b1,m0,m1⟩:=hb
 cases k with
 | least=>exact chs_read (by omega) (by omega) trivial (by show 2 < 3;omega)
 | len=>exact chs_read (by omega) (by omega) trivial (by show (most - 0).toNat+1 < most.toNat+2;omega)
 | start call k=>exact chs_read (by omega) (by omega) ⟨hv,by omega⟩ (by show 2 * (most - 0).toNat+7 < 2 * most.toNat+8;omega)
 | keyOf =>
   simp only [Chn.goK]
   split
   · rename_i h
     obtain ⟨h1,h2⟩:=h
     refine chs_read ?_ ?_ trivial (by show 1 < 2;omega) <;> (unfold Chn.keyI;omega)
   · exact chs_end i64_0 i64_1
 | keyOf1=>exact chs_end hvv i64_0
 | counts n =>
   obtain ⟨n0,n1⟩:=hok
   simp only [Chn.goK]
   split
   · rename_i h
     obtain ⟨⟨h1,h2⟩,h3⟩:=h
     refine chs_read ?_ ?_ trivial (by show (most - (n+1)).toNat+1 < (most - n).toNat+1;omega) <;> (unfold Chn.linkI;omega)
   · exact chs_end (by unfold I64;omega) i64_0
 | goes call k cell n =>
   obtain ⟨q1,q2,q3⟩:=hok
   simp only [Chn.goK]
   split
   · rename_i h
     obtain ⟨⟨h1,h2⟩,h3⟩:=h
     refine chs_read ?_ ?_ ⟨hv.1,hv.2,hvv⟩ (by show 2 * (most - n).toNat+6 < 2 * (most - n).toNat+7;omega) <;> (unfold Chn.keyI;omega)
   · exact chs_then hb0 ⟨q1,fun e=>by cases e⟩ hv.1 hv.2 hvv i64_0 (by show 7≤2 * (most - n).toNat+7;omega)
 | goes1 call k cell n p =>
   obtain ⟨q1,q2,q3,q4⟩:=hok
   obtain ⟨v1,v2,v3⟩:=hv
   simp only [Chn.goK]
   split
   · exact chs_then hb0 ⟨q1,fun _=>q4⟩ v1 v2 v3 hvv (by show 7≤2 * (most - n).toNat+6;omega)
   · obtain ⟨h1,h2⟩:=q4
     refine chs_read ?_ ?_ ⟨v1,?_⟩ (by show 2 * (most - (n+1)).toNat+7 < 2 * (most - n).toNat+6;omega) <;> (unfold Chn.linkI;omega)
 | addF k d =>
   simp only [Chn.goK]
   split
   · rename_i h
     obtain ⟨h1,h2⟩:=h
     refine chs_read ?_ ?_ hv (by show 5 < 6;omega) <;> (unfold Chn.linkI;omega)
   · exact chs_read (by omega) (by omega) hv (by show 5 < 6;omega)
 | addQ k d f=>exact chs_put (by omega) (by omega) hvv hv (by show 4 < 5;omega)
 | addU k d =>
   simp only [Chn.goK]
   split
   · exact chs_end i64_0 i64_2
   · exact chs_put (by omega) (by omega) (by unfold I64;omega) hv (by show 4 < 5;omega)
 | delQ d =>
   obtain ⟨⟨⟨c0,c1⟩,-⟩,-⟩:=hok
   obtain ⟨v1,v2⟩:=hv
   exact chs_put (by omega) (by omega) hvv ⟨v1,v2⟩ (by show 4 < 5;omega)
 | delF d =>
   obtain ⟨-,h1,h2⟩:=hok
   refine chs_put ?_ ?_ hvv hv.2 (by show 2 < 3;omega) <;> (unfold Chn.linkI;omega)
 | done x=>exact ⟨.inl hv⟩
 | put t =>
   cases t with
   | lays1 k d f =>
     obtain ⟨-,h1,h2⟩:=hok
     refine chs_put ?_ ?_ hv.1 hv (by show 3 < 4;omega) <;> (unfold Chn.keyI;omega)
   | lays2 k d u =>
     obtain ⟨-,h1,h2⟩:=hok
     refine chs_put ?_ ?_ hv.1 hv (by show 3 < 4;omega) <;> (unfold Chn.keyI;omega)
   | key k d node =>
     obtain ⟨-,h1,h2⟩:=hok
     refine chs_put ?_ ?_ hv.2.2 hv.2.1 (by show 2 < 3;omega) <;> (unfold Chn.linkI;omega)
   | link k d node =>
     obtain ⟨⟨⟨c0,c1⟩,-⟩,h1,h2⟩:=hok
     have hv:d.cell≤2 * most+2:=hv
     exact chs_put (by omega) (by omega) (by unfold I64;omega) trivial (by show 1 < 2;omega)
   | fin=>exact chs_end i64_0 i64_0
   | delW d=>exact chs_read (by omega) (by omega) hv (by show 3 < 4;omega)
   | delL d=>exact chs_put (by omega) (by omega) hv trivial (by show 1 < 2;omega)
   | delFin=>exact chs_end i64_0 i64_0
theorem chn_good_of {base most:Int} (hb:Chn.inB base most):∀ (n:Nat) (k:Chn.K),leftK most k≤n→Chn.OkK most k→okV most k→Good askChn (base+(2 * most+3)) n ⟨base,most,k⟩
 | 0,k,hl,_,_=>by
   exfalso
   unfold leftK at hl
   split at hl <;> omega
 | n+1,k,hl,hok,hv=>chn_of fun v hvv=>by
   rcases (chn_step hb hok hv v hvv).one with h | ⟨h1,h2,h3,h4,h5,h6⟩
   · exact .inl h
   · exact .inr ⟨h1,h2,h3,h4,chn_good_of hb n _ (by omega) (Chn.ok_step hb hok v) h5⟩
theorem chn_good {base most call:Int} {xs:List Int} (hb:Chn.inB base most) (hx:∀ x∈xs,I64 x):Good askChn (base+(2 * most+3)) 40 (Chn.initM base most call xs):=by
 have hv0:I64 (xs.getD 0 0):=by
   cases xs with
   | nil=>exact i64_0
   | cons a l=>exact hx a List.mem_cons_self
 have hm:=hb.2.2
 unfold Chn.initM
 split
 · exact chn_good_of hb 40 _ (by show 3≤40;omega) trivial trivial
 · split
   · exact chn_good_of hb 40 _ (by show most.toNat+2≤40;omega) trivial trivial
   · exact chn_good_of hb 40 _ (by show 2 * most.toNat+8≤40;omega) trivial hv0
end
section
open Go.RowKit
variable {w0:World} {X:List Nat} {Cs:List Comp} {w:World} {x:Nat} {k:PCfg} {f:PF} {st cs ts:List Int}
theorem infoOut:(Tryz.prog.info? 74).map (·.size)=some 3:=by kernel_rfl
def outV (n e:Int) (v:Value):Value:=.agg #[.int .i64 n,.int .i64 e,v]
def outO (n e:Int) (v:Value):Obj:=.cells #[.int .i64 n,.int .i64 e,v] 74 (0,0)
theorem Outcome_on (hS:Sep w0 X (cBlk x (progO k f)::Cs) w) (h:f.over=false) :
   Calls Tryz.prog 21 #[ptr x] w (fun e w'=>e=.returned (.tuple #[outV 0 0 (.slice none 0 0),.bool false])∧Sep w0 X (cBlk x (progO k f)::Cs) w'):=by
 have S1:=hS.new (outO 0 0 (.slice none 0 0))
 have c23:=hS.cell 23
 simp only [progA,gA,gZ,gS,h] at c23
 have hlt:=heap_lt hS.h0
 have HS:=kH S1
 clear hS S1 h
 unfold ptr outO at *
 go_enter Tryz.func21,Tryz.ntmps21
 go_wp2
 refine bodyPost_ret (results_two (p:=2) (u:=3) rfl _ _ _ _ _ _ _ rfl HS.out.h0 Tryz.underlying74 rfl infoOut) rfl ⟨rfl,HS.out.drop⟩
theorem Clone_cI {v:Value} {xs:List Int} (hS:Sep w0 X Cs w) (hr:RowAt w 2 1 v xs.length (ints xs)) (hl:xs.length≤1000000) :
   Calls Tryz.prog 35 #[v] w (fun e w'=>∃ v',e=.returned v'∧Sep w0 X (cI v' xs::Cs) w'):=by
 rcases hr.parts with ⟨rfl,h2,-⟩ | ⟨g,cap,rfl,hnc,hcm,hg,hcell⟩
 · obtain rfl:xs=[]:=List.eq_nil_of_length_eq_zero h2
   refine (Tryz.Clone_i64_nil 0 0 w).mono ?_
   rintro e w' ⟨rfl,rfl⟩
   exact ⟨_,rfl,hS.nilRow _ _⟩
 · exact Clone_ints hS g 0 xs.length cap xs rfl hl (fun j u hu=>by rw [Nat.zero_add];exact hcell j u hu)
theorem Outcome_over (hS:Sep w0 X (pC x k f st cs ts Cs) w) (h:f.over=true) (hts:ts.length≤1000) :
   Calls Tryz.prog 21 #[ptr x] w (fun e w'=>∃ a n c,e=.returned (.tuple #[outV f.nth f.err (.slice a n c),.bool true])∧Sep w0 X (pC x k f st cs ts Cs) w'):=by
 have S1:Sep w0 X (pC x k f st cs ts (cBlk w.heap.size (outO 0 0 (.slice none 0 0))::Cs)) (w.alloc (outO 0 0 (.slice none 0 0))):=(hS.new (outO 0 0 (.slice none 0 0))).push [_,_,_,_,_]
 have c11:=hS.cell 11
 have c18:=hS.cell 18
 have c23:=hS.cell 23
 have c24:=hS.cell 24
 simp only [progA,gA,gZ,gS,h] at c11 c18 c23 c24
 have hlt:=heap_lt hS.h0
 have HS1:=kH S1
 clear hS S1
 unfold ptr outO at *
 go_enter Tryz.func21,Tryz.ntmps21
 go_wp2_with fail
 go_region
 have S2:=(HS1.out.new (.cells #[.int .i64 f.nth,.int .i64 f.err,.slice none 0 0] 74 (0,0))).drew
 rw [show (w.alloc (.cells #[.int .i64 0,.int .i64 0,.slice none 0 0] 74 (0,0))).heap.size=w.heap.size+1 by simp] at S2
 clear c11 c18 c23 c24 hlt HS1
 generalize ((w.alloc (.cells #[.int .i64 0,.int .i64 0,.slice none 0 0] 74 (0,0))).alloc (.cells #[.int .i64 f.nth,.int .i64 f.err,.slice none 0 0] 74 (0,0))).drew=W2 at *
 have hrow:RowAt W2 2 1 f.tv ts.length (ints ts):=(S2.pull [_,_,_,_]).h0
 have HC:=kH (Clone_cI S2 hrow (by omega))
 have S3:=S2.pull [_]
 have d18:=S3.cell 18
 have d24:=S3.cell 24
 simp only [progA,gA,gZ,gS] at d18 d24
 have hlt:=heap_lt S3.h0
 have x0:=S2.cell 0
 have x1:=S2.cell 1
 have x2:=S2.cell 2
 have z2:=S2.froz 2
 have S4:=S2.pull [_,_,_,_,_,_]
 have y0:=S4.cell 0
 have y1:=S4.cell 1
 have y2:=S4.cell 2
 have v0:=S4.froz 0
 have v1:=S4.froz 1
 have v2:=S4.froz 2
 simp only [gA,gZ,gS] at x0 x1 x2 y0 y1 y2
 have hlt1:=heap_lt S2.h0
 have hlt2:=heap_lt S4.h0
 have HS2:=kH S2
 clear S2 S3 S4 hrow
 by_cases he:f.err=0
 · have he':(f.err == 0)=true:=by simp [he]
   go_wp2_with fail
   refine HC.out.mono ?_
   rintro e w1 ⟨v',rfl,S5⟩
   have hv:∃ a c,v'=.slice a ts.length c:=by
     obtain ⟨a,c,h,-⟩:=(S5.h0:RowAt w1 2 1 v' ts.length (ints ts)).slice
     exact ⟨a,c,h⟩
   obtain ⟨a,c,rfl⟩:=hv
   have S6:=S5.drop
   have x0:=S6.cell 0
   have x1:=S6.cell 1
   have x2:=S6.cell 2
   have z2:=S6.froz 2
   have S4:=S6.pull [_,_,_,_,_,_]
   have y0:=S4.cell 0
   have y1:=S4.cell 1
   have y2:=S4.cell 2
   have v0:=S4.froz 0
   have v1:=S4.froz 1
   have v2:=S4.froz 2
   simp only [gA,gZ,gS] at x0 x1 x2 y0 y1 y2
   have hlt1:=heap_lt S6.h0
   have hlt2:=heap_lt S4.h0
   have HS6:=kH S6
   clear S4 S5 S6
   go_wp2
   have S7:=((((HS6.out.set 2 (.slice a ts.length c)).pull [_,_,_,_,_,_]).set 0 (.int .i64 f.nth)).set 1 (.int .i64 0)).set 2 (.slice a ts.length c)
   refine bodyPost_ret (results_two (p:=2) (u:=3) rfl _ _ _ _ _ _ _ rfl S7.h0 Tryz.underlying74 rfl infoOut) rfl ⟨a,ts.length,c,by rw [he];rfl,S7.drop.drop⟩
 · have he':(f.err == 0)=false:=by simp [he]
   go_wp2
   have S7:=(((HS2.out.pull [_,_,_,_,_,_]).set 0 (.int .i64 f.nth)).set 1 (.int .i64 f.err)).set 2 (.slice none 0 0)
   refine bodyPost_ret (results_two (p:=2) (u:=3) rfl _ _ _ _ _ _ _ rfl S7.h0 Tryz.underlying74 rfl infoOut) rfl ⟨none,0,0,rfl,S7.drop.drop⟩
end
section
open Go.RowKit
variable {w0:World} {X:List Nat} {Cs:List Comp} {w:World}
structure SW where
 raw:Int
 ring:Int
 writes:Int
 stamps:Int
 multi:Bool
 tries:Int
 rv:Value
 pv:Value
 mp:Nat
 tv:Value
 ev:Value
 opened:Int
 steps:Int
def swA (s:SW):Array Value:=#[.int .i64 s.raw,.int .i64 s.ring,.int .i64 s.writes,.int .i64 s.stamps,.bool s.multi,.int .i64 s.tries,s.rv,s.pv,ptr s.mp,s.tv,s.ev,.int .i64 s.opened,.int .i64 s.steps]
def swO (s:SW):Obj:=.cells (swA s) 59 (0,0)
structure ST where
 jv:Value
 jp:Value
 taken:Int
 tx:Int
 stamp:Int
 ov:Value
 steps:Int
 waits:Int
def stA (s:ST):Array Value:=#[s.jv,s.jp,.int .i64 s.taken,.int .i64 s.tx,.int .i64 s.stamp,s.ov,.int .i64 s.steps,.int .i64 s.waits]
def stO (s:ST):Obj:=.cells (stA s) 65 (0,0)
structure TkS where
 opened:Int
 tx:Int
 stamp:Int
def tkS (s:TkS) (e:EvD):TkS:=if e.kind=7 then ⟨s.opened+1,s.opened,s.stamp⟩ else if e.kind=4 then { s with stamp:=e.stamp } else if e.kind=5 then { s with stamp:=0 } else s
def tkE (at_ th:Int) (s:TkS) (e:EvD):EvT:=⟨at_,th,(tkS s e).tx,e⟩
def tkAll (at_ th:Int):TkS→List EvD→List EvT
 | _,[]=>[]
 | s,e::l=>tkE at_ th s e::tkAll at_ th (tkS s e) l
theorem tkAll_add (at_ th:Int) (e:EvD):∀ (l:List EvD) (s:TkS),tkAll at_ th s (l++[e])=tkAll at_ th s l++[tkE at_ th (l.foldl tkS s) e]
 | [],_=>rfl
 | d::l,s=>by
   show tkE at_ th s d::tkAll at_ th (tkS s d) (l++[e])=_
   rw [tkAll_add at_ th e l]
   rfl
theorem tkAll_len (at_ th:Int):∀ (l:List EvD) (s:TkS),(tkAll at_ th s l).length=l.length
 | [],_=>rfl
 | d::l,s=>by
   show (tkAll at_ th (tkS s d) l).length+1=l.length+1
   rw [tkAll_len at_ th l]
theorem tkS_opened (e:EvD) (s:TkS):s.opened≤(tkS s e).opened∧(tkS s e).opened≤s.opened+1:=by
 unfold tkS
 repeat' split
 all_goals exact ⟨by first | omega | (dsimp only;omega),by first | omega | (dsimp only;omega)⟩
theorem tk_opened:∀ (l:List EvD) (s:TkS),s.opened≤(l.foldl tkS s).opened∧(l.foldl tkS s).opened≤s.opened+l.length
 | [],s=>⟨Int.le_refl _,by simp⟩
 | e::l,s=>by
   have h1:=tkS_opened e s
   have h2:=tk_opened l (tkS s e)
   simp only [List.foldl_cons,List.length_cons]
   omega
theorem take_add {l:List EvD} {i:Nat} (h:i < l.length):l.take (i+1)=l.take i++[l[i]]:=List.take_succ_eq_append_getElem h
theorem Sep.wset {s s':SW} {wb:Nat} (h:Sep w0 X (cBlk wb (swO s)::Cs) w) (i:Nat) (v:Value) (he:(swA s).setIfInBounds i v=swA s'):Sep w0 X (cBlk wb (swO s')::Cs) (w.setCell ⟨wb,i,none⟩ v):=by
 have h6:=h.set i v
 rw [he] at h6
 exact h6
theorem Sep.tset {s s':ST} {tb:Nat} (h:Sep w0 X (cBlk tb (stO s)::Cs) w) (i:Nat) (v:Value) (he:(stA s).setIfInBounds i v=stA s'):Sep w0 X (cBlk tb (stO s')::Cs) (w.setCell ⟨tb,i,none⟩ v):=by
 have h6:=h.set i v
 rw [he] at h6
 exact h6
theorem Sep.eqB {A B:Array Value} {t:TypeId} {g:Nat} (h:Sep w0 X (cBlk g (.cells A t (0,0))::Cs) w) (e:A=B):Sep w0 X (cBlk g (.cells B t (0,0))::Cs) w:=e ▸ h
class EvMid (w:World) (g o:Nat) (cs:outParam (List Value)):Prop where
 at_:w.rangeAt g o cs
 len:cs.length=19
class EvCs (cs:List Value):Prop where
 len:cs.length=19
 one:∀ v∈cs,v.oneCell'=true
def storeEv (p v:Value):Sem Unit:=Instr.storeAt 44 p v
theorem storeAt_ev (p v:Value):Instr.storeAt 44 p v=storeEv p v:=rfl
theorem storeEv_new {w:World} {c:Array Value} {cs:List Value} [h:EvCs cs] (hc:c.size=19):(storeEv (.pointer (some ⟨w.heap.size,0,none⟩)) (.agg cs.toArray)).run Tryz.prog (w.alloc (.cells c 44 (0,0)))=.ok () (w.alloc (.cells cs.toArray 44 (0,0))):=by
 obtain ⟨i0,yi,yz0,yz1,yz2⟩:=info_parts infoEv
 have hz:cs.toArray.size=19:=h.len
 exact run_storeAt_new w _ c cs.toArray (by rw [yi,hz,← yz1];rfl) (by rw [hc,hz]) (all_oneCell_toArray h.one)
theorem loadEvM_run {w:World} {g o:Nat} {cs:List Value} [h:EvMid w g o cs]:(loadEv (.pointer (some ⟨g,o,none⟩))).run Tryz.prog w=.ok (.agg cs.toArray) w:=by
 obtain ⟨i0,yi,yz0,yz1,yz2⟩:=info_parts infoEv
 unfold loadEv Instr.loadAt
 have e:=run_loadVar_mid (P:=Tryz.prog) w g o 44 cs _ h.at_ Tryz.underlying44 rfl (by rw [yi,h.len,← yz1];rfl)
 simp only [Instr.sureAddr,Sem.run_bind,Sem.run_pure,Result.andThen_ok,e]
theorem ev_at (l:List EvT) (i:Nat) (h:i < l.length):∀ j u,(evL l[i])[j]?=some u→(evCells l)[i * 19+j]?=some u:=by
 intro j u hu
 have hj:j < 19:=by
   have:=(List.getElem?_eq_some_iff.1 hu).1
   rwa [evL_len] at this
 have e:l=l.take i++l[i]::l.drop (i+1):=by rw [← List.drop_eq_getElem_cons h,List.take_append_drop]
 have e2:evCells l=evCells (l.take i)++(evL l[i]++evCells (l.drop (i+1))):=by
   refine (congrArg evCells e).trans ?_
   unfold evCells
   rw [List.flatMap_append,List.flatMap_cons]
 have hl:(evCells (l.take i)).length=i * 19:=by rw [evCells_length,List.length_take];congr 1;omega
 rw [e2,List.getElem?_append_right (by omega),hl,show i * 19+j - i * 19=j by omega,List.getElem?_append_left (by rw [evL_len];exact hj)]
 exact hu
theorem bareRow {W:World} {Y:List Nat} {Ds:List Comp} {w1:World} {ev:Value} {L:List EvD} (h:Sep w1 Y (cEv ev (bare L)::Ds) W):∃ a c,ev=.slice a L.length c∧L.length≤c∧c≤maxLen:=by
 have hr:RowAt W 44 19 ev (bare L).length (evCells (bare L)):=h.h0
 have e:(bare L).length=L.length:=by simp [bare]
 rw [e] at hr
 exact hr.slice
def TakeInv (w0:World) (X:List Nat) (Cs:List Comp) (v:Value) (L:List EvD) (l:List EvT) (s:SW) (u:ST) (wb tb:Nat) (th:Int) (i:Nat) (ev':Value) (wr:World):Prop :=
 Sep w0 X (cEv v (bare L)::cBlk wb (swO { s with ev:=ev',opened:=((L.take i).foldl tkS ⟨s.opened,u.tx,u.stamp⟩).opened })::cEv ev' (l++tkAll s.steps th ⟨s.opened,u.tx,u.stamp⟩ (L.take i)) ::
   cBlk tb (stO { u with taken:=u.taken+i,tx:=((L.take i).foldl tkS ⟨s.opened,u.tx,u.stamp⟩).tx,stamp:=((L.take i).foldl tkS ⟨s.opened,u.tx,u.stamp⟩).stamp })::Cs) wr
attribute [local go_sem] fill_one
attribute [local go_sem ↓] loadAt_ev storeAt_ev
attribute [local go_sem] loadEv_run loadEvM_run storeEv_new
theorem takes_calls {P:List Comp→Prop} {L:List EvD} {l:List EvT} {s:SW} {u:ST} {wb tb:Nat} (hS:Sep w0 X (cBlk wb (swO s)::cEv s.ev l::cBlk tb (stO u)::Cs) w)
   (hT:∀ W,Sep w0 X (cBlk wb (swO s)::cEv s.ev l::cBlk tb (stO u)::Cs) W→Calls Tryz.prog 46 #[u.jp,.int .i64 u.taken] W (fun e w'=>∃ ev Cs',P Cs'∧e=.returned ev∧Sep w0 X (cEv ev (bare L)::cBlk wb (swO s)::cEv s.ev l::cBlk tb (stO u)::Cs') w'))
   (hL:L.length≤1000) (hl:l.length≤1073740000) (ho:0≤s.opened∧s.opened≤1099511627776) (hu:0≤u.taken∧u.taken≤1099511627776) (th:Int) :
   Calls Tryz.prog 20 #[ptr wb,ptr tb,.int .i64 th] w (fun e w'=>e=.returned (.tuple #[])∧∃ ev' Cs',P Cs' ∧
     Sep w0 X (cBlk wb (swO { s with ev:=ev',opened:=(L.foldl tkS ⟨s.opened,u.tx,u.stamp⟩).opened })::cEv ev' (l++tkAll s.steps th ⟨s.opened,u.tx,u.stamp⟩ L) ::
       cBlk tb (stO { u with taken:=u.taken+L.length,tx:=(L.foldl tkS ⟨s.opened,u.tx,u.stamp⟩).tx,stamp:=(L.foldl tkS ⟨s.opened,u.tx,u.stamp⟩).stamp })::Cs') w'):=by
 have c1:=(hS.pull [_,_]).cell 1
 have c2:=(hS.pull [_,_]).cell 2
 simp only [stA,gA,gZ,gS] at c1 c2
 have hlt:=heap_lt hS.h0
 have hltt:=heap_lt (hS.pull [_,_]).h0
 have HT0:=kH (hT _ hS)
 have HT:=kH (fun q=>hT _ (hS.drewN q))
 have HT1:=kH (hT _ hS.drew)
 have hlT:=fun {W:World} {ev:Value} {Cs'} (S:Sep w0 X (cEv ev (bare L)::Cs') W)=>bareRow S
 obtain ⟨jp,hjp⟩:∃ jp,u.jp=jp:=⟨_,rfl⟩
 have HJP:=kH hjp
 rw [hjp] at c1 HT HT0 HT1 ⊢
 clear hS hT hjp
 unfold ptr at *
 go_enter Tryz.func20,Tryz.ntmps20
 go_wp2_with fail
 go_region_held3 (fun w'=>w'.cell? ⟨tb,1,none⟩=some jp∧w'.cell? ⟨tb,2,none⟩=some (.int .i64 u.taken)) (go_keep) (first | (go_at_call 46;(first | refine HT0.out.mono ?_ | refine HT1.out.mono ?_ | refine (HT.out _).mono ?_);rintro e1 w1 ⟨ev,Cs1,hP,rfl,S1⟩;obtain ⟨a,cap,rfl,hcn,hcm⟩:=hlT S1;have d1:=(S1.pull [_,_,_]).cell 1;have d2:=(S1.pull [_,_,_]).cell 2;simp only [stA,gA,gZ,gS,HJP.out] at d1 d2;have HS1:=kH S1;clear S1))
 all_goals
   clear hlT HT HT0 HT1 c1 c2 d1 d2
   try simp only [Act.put,List.setIfInBounds_toArray,List.set_cons_succ,List.set_cons_zero,List.getElem_toArray,List.getElem_cons_succ,List.getElem_cons_zero]
   go_wp2_with fail
   go_loopg [18] (L.length) (fun nn v18 wr=>∃ (i:Nat) (ev':Value),i≤L.length∧v18=.int .i64 i∧nn+i=L.length∧TakeInv w0 X Cs1 (.slice a L.length cap) L l s u wb tb th i ev' wr)
   case atStart =>
     refine ⟨0,s.ev,Nat.zero_le _,rfl,rfl,?_⟩
     unfold TakeInv
     simpa [tkAll] using HS1.out
   case round =>
     obtain ⟨i,ev',hi,rfl,hn,S⟩:=hrel
     unfold TakeInv at S
     have HN:=kH hn
     clear hn HS1
     by_cases hlt2:i < L.length
     · have hrow:RowAt wr 44 19 (.slice a L.length cap) (bare L).length (evCells (bare L)):=S.h0
       have hbl:(bare L).length=L.length:=by simp [bare]
       rcases hrow.parts with ⟨q1,q2,q3⟩ | ⟨g,cap',hv,-,-,hg,hcell⟩
       · omega
       injection hv with hv1 hv2 hv3
       subst hv1
       clear hv2 hv3
       have hbi:(bare L)[i]'(by omega)=bareE L[i]:=by simp [bare]
       have hev:EvMid wr g (i * 19) (evL (bareE L[i])):=⟨fun j u hu=>hcell _ u (ev_at (bare L) i (by omega) j u (by rw [hbi];exact hu)),rfl⟩
       have HTK:=kH (show (L.take (i+1)).foldl tkS ⟨s.opened,u.tx,u.stamp⟩=tkS ((L.take i).foldl tkS ⟨s.opened,u.tx,u.stamp⟩) L[i] by rw [take_add hlt2,List.foldl_append];rfl)
       have HTA:=kH (show tkAll s.steps th ⟨s.opened,u.tx,u.stamp⟩ (L.take (i+1))=tkAll s.steps th ⟨s.opened,u.tx,u.stamp⟩ (L.take i)++[tkE s.steps th ((L.take i).foldl tkS ⟨s.opened,u.tx,u.stamp⟩) L[i]] by rw [take_add hlt2,tkAll_add])
       have hob:=tk_opened (L.take i) ⟨s.opened,u.tx,u.stamp⟩
       have hll:(tkAll s.steps th ⟨s.opened,u.tx,u.stamp⟩ (L.take i)).length=i:=by rw [tkAll_len,List.length_take];omega
       rw [List.length_take] at hob
       dsimp only at hob
       generalize (L.take i).foldl tkS ⟨s.opened,u.tx,u.stamp⟩=σ at *
       generalize tkAll s.steps th ⟨s.opened,u.tx,u.stamp⟩ (L.take i)=lt at *
       generalize L[i]=e at *
       have HSR:=kH S
       have hwt:IntKind.i64.wrap (u.taken+i+1)=u.taken+i+1:=IntWalk.i64_in _ (by omega)
       have hwo:IntKind.i64.wrap (σ.opened+1)=σ.opened+1:=IntWalk.i64_in _ (by omega)
       have S2:=((S.pull [_,_,_]).tset (s':={ u with taken:=u.taken+i+1,tx:=σ.tx,stamp:=σ.stamp }) 2 (.int .i64 (u.taken+i+1)) (by simp [stA])).push [_,_,_]
       have S3:=S2.new (evBox (bareE e))
       rw [show (wr.setCell ⟨tb,2,none⟩ (.int .i64 (u.taken+i+1))).heap.size=wr.heap.size by simp] at S3
       have k2:=(S.pull [_,_,_]).cell 2
       have z2:=(S.pull [_,_,_]).froz 2
       simp only [stA,gA,gZ,gS] at k2
       have hltb:=heap_lt (S.pull [_,_,_]).h0
       have b3:=S3.cell 3
       have HLL:=kH hll
       have HY:=kH (show ∀ W:World,W.alloc (evBox (bareE e))=W.alloc (evBox (bareE e)) from fun _=>rfl)
       obtain ⟨cs,hcs⟩:∃ cs,evL (bareE e)=cs:=⟨_,rfl⟩
       have HCS:=kH hcs
       have hecs:EvCs cs:=hcs ▸ ⟨rfl,evL_one _⟩
       have hc3:cs[3]?=some (.int .i64 e.kind):=by rw [← hcs];rfl
       unfold evBox at S3 b3
       rw [hcs] at hev S3 b3
       simp only [gA,hc3] at b3
       have HS3:=kH S3
       clear S S2 S3 hrow hcell hbi hob hbl hll hcs hc3 HSR HY
       go_upto_region 4 with (fail)
       iterate 10 go_step
       generalize hW1:(wr.setCell ⟨tb,2,none⟩ (.int .i64 (u.taken+i+1))).alloc (.cells cs.toArray 44 (0,0))=W1 at *
       have hc9:cs[9]?=some (.int .i64 e.stamp):=by rw [← HCS.out];rfl
       have S4:=HS3.out
       have b9:=S4.cell 9
       have r11:=(S4.pull [_,_]).cell 11
       have y11:=(S4.pull [_,_]).froz 11
       have k3:=(S4.pull [_,_,_,_]).cell 3
       have k4:=(S4.pull [_,_,_,_]).cell 4
       have z3:=(S4.pull [_,_,_,_]).froz 3
       have z4:=(S4.pull [_,_,_,_]).froz 4
       simp only [swA,stA,gA,gZ,gS,hc9] at b9 r11 k3 k4
       have hltw1:=heap_lt (S4.pull [_,_]).h0
       have hltb1:=heap_lt (S4.pull [_,_,_,_]).h0
       clear S4 hc9 hW1
       go_cut [18] from 18 to 81 (fun v18 wc=>v18=.int .i64 i∧Sep w0 X (cBlk wr.heap.size (.cells cs.toArray 44 (0,0))::cEv (.slice (some ⟨g,0,none⟩) L.length cap) (bare L)::cBlk wb (swO { s with ev:=ev',opened:=(tkS σ e).opened })::cEv ev' (l++lt)::cBlk tb (stO { u with taken:=u.taken+i+1,tx:=(tkS σ e).tx,stamp:=(tkS σ e).stamp })::Cs1) wc)
       case first =>
         have HT7:=kH (fun h:e.kind=7=>show tkS σ e=⟨σ.opened+1,σ.opened,σ.stamp⟩ by unfold tkS;rw [if_pos h])
         have HT4:=kH (fun (h:e.kind≠7) (h4:e.kind=4)=>show tkS σ e = { σ with stamp:=e.stamp } by unfold tkS;rw [if_neg h,if_pos h4])
         have HT5:=kH (fun (h:e.kind≠7) (h4:e.kind≠4) (h5:e.kind=5)=>show tkS σ e = { σ with stamp:=0 } by unfold tkS;rw [if_neg h,if_neg h4,if_pos h5])
         have HT0:=kH (fun (h:e.kind≠7) (h4:e.kind≠4) (h5:e.kind≠5)=>show tkS σ e=σ by unfold tkS;rw [if_neg h,if_neg h4,if_neg h5])
         by_cases h7:e.kind=7
         · have h7':(e.kind == 7)=true:=by simp [h7]
           have HE:=kH (HT7.out h7)
           clear h7 HTK HTA
           generalize e.kind=kind at *
           go_wp2
           go_meet
           case rel =>
             refine ⟨rfl,?_⟩
             rw [HE.out]
             exact (((((HS3.out.pull [_,_,_,_]).tset (s':={ u with taken:=u.taken+i+1,tx:=σ.opened,stamp:=σ.stamp }) 3 (.int .i64 σ.opened) (by simp [stA])).push [_,_,_,_]).pull [_,_]).wset (s':={ s with ev:=ev',opened:=σ.opened+1 }) 11 (.int .i64 (σ.opened+1)) (by simp [swA])).push [_,_]
         · have h7':(e.kind == 7)=false:=by simp [h7]
           by_cases h4:e.kind=4
           · have h4':(e.kind == 4)=true:=by simp [h4]
             have HE:=kH (HT4.out h7 h4)
             clear h7 h4 HTK HTA
             generalize e.kind=kind at *
             go_wp2
             go_meet
             case rel =>
               refine ⟨rfl,?_⟩
               rw [HE.out]
               exact ((HS3.out.pull [_,_,_,_]).tset (s':={ u with taken:=u.taken+i+1,tx:=σ.tx,stamp:=e.stamp }) 4 (.int .i64 e.stamp) (by simp [stA])).push [_,_,_,_]
           · have h4':(e.kind == 4)=false:=by simp [h4]
             by_cases h5:e.kind=5
             · have h5':(e.kind == 5)=true:=by simp [h5]
               have HE:=kH (HT5.out h7 h4 h5)
               clear h7 h4 h5 HTK HTA
               generalize e.kind=kind at *
               go_wp2
               go_meet
               case rel =>
                 refine ⟨rfl,?_⟩
                 rw [HE.out]
                 exact ((HS3.out.pull [_,_,_,_]).tset (s':={ u with taken:=u.taken+i+1,tx:=σ.tx,stamp:=0 }) 4 (.int .i64 0) (by simp [stA])).push [_,_,_,_]
             · have h5':(e.kind == 5)=false:=by simp [h5]
               have HE:=kH (HT0.out h7 h4 h5)
               clear h7 h4 h5 HTK HTA
               generalize e.kind=kind at *
               go_wp2
               go_meet
               case rel =>
                 refine ⟨rfl,?_⟩
                 rw [HE.out]
                 exact HS3.out
       case rest =>
         obtain ⟨rfl,S5⟩:=hcut
         have HS5:=kH S5
         have e0:cs[0]?=some (.int .i64 0):=by rw [← HCS.out];rfl
         have e1:cs[1]?=some (.int .i64 0):=by rw [← HCS.out];rfl
         have e2:cs[2]?=some (.int .i64 0):=by rw [← HCS.out];rfl
         have r12:=(S5.pull [_,_]).cell 12
         have k3':=(S5.pull [_,_,_,_]).cell 3
         have b0:=S5.cell 0
         have b1:=S5.cell 1
         have b2:=S5.cell 2
         have x0:=S5.froz 0
         have x1:=S5.froz 1
         have x2:=S5.froz 2
         simp only [swA,stA,gA,gZ,gS,e0,e1,e2] at r12 k3' b0 b1 b2
         have hlt5:=heap_lt S5.h0
         have hlt6:=heap_lt (S5.pull [_,_]).h0
         have hlt7:=heap_lt (S5.pull [_,_,_,_]).h0
         have HTX:=kH (show ((((cs.toArray).setIfInBounds 0 (.int .i64 s.steps)).setIfInBounds 1 (.int .i64 th)).setIfInBounds 2 (.int .i64 (tkS σ e).tx))=(evL (tkE s.steps th σ e)).toArray by rw [← HCS.out];simp [evL,tkE,bareE])
         clear S5 e0 e1 e2 hev hecs b3 b9 r11 y11 k2 z2 k3 k4 z3 z4
         generalize tkS σ e=σ' at *
         generalize tkE s.steps th σ e=y at *
         generalize hbx:wr.heap.size=bx at *
         go_wp2_with fail
         go_region
         have S6:=((((HS5.out.set 0 (.int .i64 s.steps)).set 1 (.int .i64 th)).set 2 (.int .i64 σ'.tx)).eqB HTX.out).drew
         generalize (((wc.setCell ⟨bx,0,none⟩ (.int .i64 s.steps)).setCell ⟨bx,1,none⟩ (.int .i64 th)).setCell ⟨bx,2,none⟩ (.int .i64 σ'.tx)).drew=W2 at *
         obtain ⟨i0,yi,yz0,yz1,yz2⟩:=info_parts infoEv
         have HE:=kH (evCells_add (l++lt) y)
         have HLN:=kH (show (l++lt).length=l.length+i by rw [List.length_append,HLL.out])
         have HONE:=kH (evL_one y)
         have HL19:=kH (evL_len y)
         have HNW:Hid (∀ (W:World) (n:Nat) (u:Value),(evL y)[n]?=some u→(W.alloc (.cells (evL y).toArray 44 (0,0))).cell? ((⟨W.heap.size,0,none⟩:Addr).add n)=some u):=fun W n u hu=>new_cell (heap_new_at rfl) n u (by simpa using hu)
         have HYY:=kH (rfl:evL y=evL y)
         obtain ⟨a0,a1,a2,a3,a4,a5,a6,a7,a8,a9,a10,a11,a12,a13,a14,a15,a16,a17,a18,hnews⟩:∃ a0 a1 a2 a3 a4 a5 a6 a7 a8 a9 a10 a11 a12 a13 a14 a15 a16 a17 a18,evL y=[a0,a1,a2,a3,a4,a5,a6,a7,a8,a9,a10,a11,a12,a13,a14,a15,a16,a17,a18]:=⟨_,_,_,_,_,_,_,_,_,_,_,_,_,_,_,_,_,_,_,rfl⟩
         rw [hnews] at S6 HE HONE HL19 HNW
         have HROW:Hid (RowAt W2 44 19 ev' (l++lt).length (evCells (l++lt))):=(S6.pull [_,_,_]).h0
         have hblk:EvBlk W2.drew bx #[a0,a1,a2,a3,a4,a5,a6,a7,a8,a9,a10,a11,a12,a13,a14,a15,a16,a17,a18]:=⟨S6.h0,rfl⟩
         have k10:=(S6.pull [_,_]).cell 10
         simp only [swA,gA,gZ,gS] at k10
         have hlt8:=heap_lt (S6.pull [_,_]).h0
         have HS6:=kH S6
         generalize hlen:(l++lt).length=n at *
         have HLEN:=kH hlen
         have hn8:n≤1073741000:=by have:=HLN.out;omega
         generalize hxs:evCells (l++lt)=xs at *
         have HXS:=kH hxs
         clear S6 hnews hlen hxs
         go_wp2_with fail
         go_region_law (refine step_append_lies _ rfl (.tmp 75) (.tmp 77) 37 rfl 0 44 i0 _ 19 152 Tryz.underlying37 yi yz0 yz1 yz2 rfl (by decide) ev' n xs rfl (World.ownsRow.alloc (w:=W2.drewN _) HROW.out _) ⟨W2.heap.size,0,none⟩ 1 1 [a0,a1,a2,a3,a4,a5,a6,a7,a8,a9,a10,a11,a12,a13,a14,a15,a16,a17,a18] rfl (by rw [HL19.out]) (HNW.out _) HONE.out (by decide) (by unfold maxLen;omega) (by omega) (Nat.zero_le _) _ rfl ?_;intro g5 cap5 w5 hown5 hgrow5 hat5 hgl5;have S8:=(((HS6.out.drewN _).alloc _).pull [_,_,_]).append hgrow5 hown5 hat5 (Nat.le_refl _);have hcf5:=(S8.pull [_,_,_]).froz 10;have hcc5:=(S8.pull [_,_,_]).cell 10;simp only [swA,gA,gZ,gS] at hcc5;have HS8:=kH S8;clear S8)
         all_goals
           go_wp2
           go_roundg (L.length - (i+1))
           case measure=>have:=HN.out;omega
           case rel =>
             refine ⟨i+1,.slice (some ⟨g5,0,none⟩) (n+1) cap5,by omega,by go_num,by have:=HN.out;omega,?_⟩
             unfold TakeInv
             rw [HTK.out,HTA.out,← List.append_assoc,show u.taken+((i+1:Nat):Int)=u.taken+i+1 by omega]
             have S9:=((HS8.out.sw.drop.pull [_,_]).wset (s':={ s with ev:=.slice (some ⟨g5,0,none⟩) (n+1) cap5,opened:=σ'.opened }) 10 (.slice (some ⟨g5,0,none⟩) (n+1) cap5) (by simp [swA])).f2
             show Sep w0 X (_::_::cRow _ _ _ (l++lt++[y]).length (evCells (l++lt++[y]))::_) _
             rw [← HE.out,show (l++lt++[y]).length=n+1 by rw [List.length_append,HLEN.out];rfl]
             exact S9
     · obtain rfl:i=L.length:=by omega
       go_wp2
       go_end0
       rw [List.take_length] at S
       obtain rfl:=HJP.out
       exact ⟨rfl,ev',Cs1,hP,S.drop⟩
end
section
open Go.RowKit
def jobB (np:Nat) (j:Int×List Int×Value):Bool:=decide (0≤j.1∧j.1 < np∧j.2.1.length≤4)
def thrOkB (np:Nat) (l:List (Int×List Int×Value)):Bool:=decide (l.length≤32) && l.all (jobB np)
def mayB (progs:List ByteArray) (tl:List (Value×List (Int×List Int×Value))):Bool:=decide (tl.length≤8∧progs.length≤16) && progs.all (fun p=>decide (p.size≤512)) && tl.all (fun t=>thrOkB progs.length t.2)
theorem may_many {progs:List ByteArray} {tl:List (Value×List (Int×List Int×Value))} (h:¬ (tl.length≤8∧progs.length≤16)):mayB progs tl=false:=by
 unfold mayB
 rw [decide_eq_false h]
 rfl
theorem may_prog {progs:List ByteArray} {tl:List (Value×List (Int×List Int×Value))} {k:Nat} {p:ByteArray} (hp:progs[k]?=some p) (h:512 < p.size):mayB progs tl=false:=by
 cases hb:mayB progs tl with
 | false=>rfl
 | true =>
   unfold mayB at hb
   simp only [Bool.and_eq_true,List.all_eq_true,decide_eq_true_eq] at hb
   have:=hb.1.2 p (List.mem_of_getElem? hp)
   omega
theorem may_thr {progs:List ByteArray} {tl:List (Value×List (Int×List Int×Value))} {k:Nat} {t:Value×List (Int×List Int×Value)} (ht:tl[k]?=some t) (h:32 < t.2.length):mayB progs tl=false:=by
 cases hb:mayB progs tl with
 | false=>rfl
 | true =>
   unfold mayB thrOkB at hb
   simp only [Bool.and_eq_true,List.all_eq_true,decide_eq_true_eq] at hb
   have:=(hb.2 t (List.mem_of_getElem? ht)).1
   omega
theorem may_job {progs:List ByteArray} {tl:List (Value×List (Int×List Int×Value))} {k q:Nat} {t:Value×List (Int×List Int×Value)} {j:Int×List Int×Value} (ht:tl[k]?=some t) (hj:t.2[q]?=some j) (h:jobB progs.length j=false):mayB progs tl=false:=by
 cases hb:mayB progs tl with
 | false=>rfl
 | true =>
   unfold mayB thrOkB at hb
   simp only [Bool.and_eq_true,List.all_eq_true,decide_eq_true_eq] at hb
   have:=(hb.2 t (List.mem_of_getElem? ht)).2 j (List.mem_of_getElem? hj)
   rw [h] at this
   simp at this
theorem may_all {progs:List ByteArray} {tl:List (Value×List (Int×List Int×Value))} (h:tl.length≤8∧progs.length≤16) (h2:∀ (k:Nat) (p:ByteArray),progs[k]?=some p→p.size≤512) (h3:∀ (k:Nat) (t:Value×List (Int×List Int×Value)),tl[k]?=some t→t.2.length≤32∧∀ (q:Nat) (j:Int×List Int×Value),t.2[q]?=some j→jobB progs.length j=true):mayB progs tl=true:=by
 unfold mayB thrOkB
 simp only [Bool.and_eq_true,List.all_eq_true,decide_eq_true_eq]
 refine ⟨⟨h,fun p hp=>?_⟩,fun t ht=>?_⟩
 · obtain ⟨i,hi,rfl⟩:=List.getElem_of_mem hp
   exact h2 i _ (List.getElem?_eq_getElem hi)
 · obtain ⟨i,hi,rfl⟩:=List.getElem_of_mem ht
   obtain ⟨k1,k2⟩:=h3 i _ (List.getElem?_eq_getElem hi)
   refine ⟨k1,fun j hj=>?_⟩
   obtain ⟨q,hq,rfl⟩:=List.getElem_of_mem hj
   exact k2 q _ (List.getElem?_eq_getElem hq)
theorem may_ok {progs:List ByteArray} {tl:List (Value×List (Int×List Int×Value))} (h:mayB progs tl=true):(tl.length≤8∧progs.length≤16)∧(∀ p∈progs,p.size≤512)∧∀ t∈tl,t.2.length≤32∧∀ j∈t.2,0≤j.1∧j.1 < progs.length∧j.2.1.length≤4:=by
 unfold mayB thrOkB jobB at h
 simp only [Bool.and_eq_true,List.all_eq_true,decide_eq_true_eq] at h
 exact ⟨h.1.1,h.1.2,h.2⟩
theorem jobC_at:∀ (l:List (Int×List Int×Value)) (k:Nat) (j:Int×List Int×Value),l[k]?=some j→(jobC l)[k * 2]?=some (.int .i64 j.1)∧(jobC l)[k * 2+1]?=some j.2.2
 | [],k,j,h=>by simp at h
 | x::l,0,j,h=>by
   simp at h
   subst h
   exact ⟨rfl,rfl⟩
 | x::l,k+1,j,h=>by
   have ih:=jobC_at l k j (by simpa using h)
   have e:jobC (x::l)=.int .i64 x.1::x.2.2::jobC l:=rfl
   rw [e,show (k+1) * 2=k * 2+1+1 by omega]
   exact ⟨by simpa using ih.1,by simpa using ih.2⟩
theorem box_keep' {w w':World} {b:Nat} {o:Obj} (h:Below w.heap.size w w') (hc:w.heap[b]?=some o):w'.heap[b]?=some o:=by
 rw [h.block b (heap_lt hc)]
 exact hc
def setO (s:SetD):Obj:=.cells #[.int .i64 s.c.raw,.int .i64 s.c.ring,.int .i64 s.c.writes,.int .i64 s.c.stamps,.bool s.c.multi,.int .i64 s.c.tries,s.rv,s.pv,s.tv] 28 (0,0)
theorem may_few (w:World) (s:SetD) (hs:SetupR w w.heap.size s) (hn:¬ (s.tl.length≤8∧s.progs.length≤16)):Calls Tryz.prog 30 #[s.val] w (fun e w'=>e=.returned (.bool (mayB s.progs s.tl))∧Below w.heap.size w w'):=by
 rw [may_many hn]
 obtain ⟨-,pa,pc,hpv,-⟩:=hs.progs.1
 obtain ⟨-,ta,tc,htv,-⟩:=hs.thr.1
 obtain ⟨c,rv,rs,pv,progs,tv,tl⟩:=s
 dsimp only at hpv htv hn
 subst hpv htv
 unfold SetD.val
 dsimp only
 rcases (show (8:Int) < (tl.length:Int)∨((tl.length:Int)≤8∧(16:Int) < (progs.length:Int)) by omega) with z | ⟨z0,z⟩
 · clear hn hs
   go_enter Tryz.func30,Tryz.ntmps30
   go_wp2
   go_ret
   exact ⟨rfl,below_alloc _ _⟩
 · clear hn hs
   go_enter Tryz.func30,Tryz.ntmps30
   go_wp2
   go_ret
   exact ⟨rfl,below_alloc _ _⟩
theorem may_loops (w:World) (s:SetD) (hs:SetupR w w.heap.size s) (hn:s.tl.length≤8∧s.progs.length≤16):Calls Tryz.prog 30 #[s.val] w (fun e w'=>e=.returned (.bool (mayB s.progs s.tl))∧Below w.heap.size w w'):=by
 obtain ⟨hn1,hn2⟩:=hn
 obtain ⟨-,pa,pc,hpv,hpc,-,hpr⟩:=hs.progs.1
 obtain ⟨-,ta,tc,htv,htc,-,htr⟩:=hs.thr.1
 have hea:=kH hs.each
 have HMP:=kH (fun k p (h1:s.progs[k]?=some p) h2=>may_prog (tl:=s.tl) h1 h2)
 have HMT:=kH (fun k t (h1:s.tl[k]?=some t) h2=>may_thr (progs:=s.progs) h1 h2)
 have HMJ:=kH (fun k q t j (h1:s.tl[k]?=some t) (h2:t.2[q]?=some j) h3=>may_job (progs:=s.progs) h1 h2 h3)
 have HMA:=kH (fun h2 h3=>may_all (progs:=s.progs) (tl:=s.tl) ⟨hn1,hn2⟩ h2 h3)
 obtain ⟨c,rv,rs,pv,progs,tv,tl⟩:=s
 dsimp only at hpv htv hn1 hn2 hpr htr hpc htc hea HMP HMT HMJ HMA
 subst hpv htv
 clear hs
 generalize mayB progs tl=E at *
 have HPR:=kH hpr
 have HTR:=kH htr
 clear hpr htr
 have hn1':(tl.length:Int)≤8:=by omega
 have hn2':(progs.length:Int)≤16:=by omega
 unfold SetD.val
 dsimp only
 obtain ⟨np,hnp⟩:∃ n,progs.length=n:=⟨_,rfl⟩
 obtain ⟨nt,hnt⟩:∃ n,tl.length=n:=⟨_,rfl⟩
 rw [hnp] at hpc hn2 hn2' HPR ⊢
 rw [hnt] at htc hn1 hn1' HTR ⊢
 have HNP:=kH hnp
 have HNT:=kH hnt
 clear hnp hnt
 go_enter Tryz.func30,Tryz.ntmps30
 go_wp2
 go_loopg [22] (np+1) (fun n v22 wr=>∃ (k:Nat),k≤np∧v22=.int .i64 k∧n+k=np+1∧(∀ (q:Nat) (p:ByteArray),q < k→progs[q]?=some p→p.size≤512)∧wr.heap[w.heap.size]?=some (setO ⟨c,rv,rs,.slice pa np pc,progs,.slice ta nt tc,tl⟩)∧Below w.heap.size w wr)
 case atStart=>exact ⟨0,Nat.zero_le _,rfl,rfl,fun q p hq=>by omega,heap_new rfl,below_alloc _ _⟩
 case round =>
   obtain ⟨k,hk,rfl,hn,hall,hC,bel⟩:=hrel
   have HC:=kH hC
   have q7:=cell_of_row wr w.heap.size 7 _ _ _ hC
   have q8:=cell_of_row wr w.heap.size 8 _ _ _ hC
   simp only [gA,gZ,gS] at q7 q8
   have HN:=kH hn
   have HA:=kH hall
   have hwsz:=heap_lt hC
   have hkn:(k:Int)≤(np:Int):=by omega
   clear hn hall hC
   by_cases hlt:k < np
   · obtain ⟨p,hp⟩:∃ p,progs[k]?=some p:=⟨progs[k]'(by have:=HNP.out;omega),List.getElem?_eq_getElem _⟩
     rcases HPR.out with h | ⟨b,off,rfl,hbB,hcell⟩
     · omega
     have hc0:=(bel.cell (p:=⟨b,off+k,none⟩) (by simp;omega)).trans (hcell k (.string p) (by rw [List.getElem?_map,hp];rfl))
     have HMP':=kH (HMP.out k p hp)
     have HA':Hid (p.size≤512→∀ (q:Nat) (p:ByteArray),q < k+1→progs[q]?=some p→p.size≤512):=fun h q p' hq hp'=>by
       by_cases e:q=k
       · subst e
         rw [hp] at hp'
         injection hp' with hp'
         subst hp'
         exact h
       · exact HA.out q p' (by omega) hp'
     have hbs:b < wr.heap.size:=by have:=bel.size;omega
     have hlt':(k:Int) < (np:Int):=by omega
     have hpc':(np:Int)≤(pc:Int):=by omega
     clear hcell hp
     by_cases hb:p.size≤512
     · have hb':(p.size:Int)≤512:=by omega
       go_wp2
       go_roundg (np - k)
       case measure=>have:=HN.out;omega
       case rel=>exact ⟨k+1,by omega,by go_num,by omega,HA'.out hb,HC.out,bel⟩
     · have hb':(512:Int) < (p.size:Int):=by omega
       go_wp2
       go_ret
       exact ⟨by rw [HMP'.out (by omega)];rfl,bel⟩
   · obtain rfl:k=np:=by omega
     go_wp2
     go_loopg [33] (nt+1) (fun n v33 ws=>∃ (i:Nat),i≤nt∧v33=.int .i64 i∧n+i=nt+1∧(∀ (q:Nat) (t:Value×List (Int×List Int×Value)),q < i→tl[q]?=some t→t.2.length≤32∧∀ (q2:Nat) (j:Int×List Int×Value),t.2[q2]?=some j→jobB k j=true)∧ws.heap[w.heap.size]?=some (setO ⟨c,rv,rs,.slice pa k pc,progs,.slice ta nt tc,tl⟩)∧Below w.heap.size w ws)
     case atStart=>exact ⟨0,Nat.zero_le _,rfl,rfl,fun q t hq=>by omega,HC.out,bel⟩
     case round =>
       obtain ⟨i,hi,rfl,hn,hall,hC2,bel2⟩:=hrel
       have HC2:=kH hC2
       have q7':=cell_of_row wr w.heap.size 7 _ _ _ hC2
       have q8':=cell_of_row wr w.heap.size 8 _ _ _ hC2
       simp only [gA,gZ,gS] at q7' q8'
       have HN2:=kH hn
       have HA2:=kH hall
       have hwsz2:=heap_lt hC2
       have hin:(i:Int)≤(nt:Int):=by omega
       clear hn hall hC2 q7 q8 hwsz
       by_cases hlt:i < nt
       · obtain ⟨⟨tv',jl⟩,ht⟩:∃ t,tl[i]?=some t:=⟨tl[i]'(by have:=HNT.out;omega),List.getElem?_eq_getElem _⟩
         obtain ⟨⟨-,ja,jc,hjv,hjc,-,hjr⟩,hje,-⟩:=hea.out _ (List.mem_of_getElem? ht)
         dsimp only at hjv hjc hjr hje
         subst hjv
         have HMT':=kH (HMT.out i _ ht)
         have HMJ':=kH (fun q j h2 h3=>HMJ.out i q _ j ht h2 h3)
         have HA2':Hid ((jl.length≤32∧∀ (q2:Nat) (j:Int×List Int×Value),jl[q2]?=some j→jobB k j=true)→∀ (q:Nat) (t:Value×List (Int×List Int×Value)),q < i+1→tl[q]?=some t→t.2.length≤32∧∀ q2 j,t.2[q2]?=some j→jobB k j=true):=fun h q t' hq ht'=>by
           by_cases e:q=i
           · subst e
             rw [ht] at ht'
             injection ht' with ht'
             subst ht'
             exact h
           · exact HA2.out q t' (by omega) ht'
         have HJR:=kH hjr
         have HJE:=kH hje
         obtain ⟨nj,hnj⟩:∃ n,jl.length=n:=⟨_,rfl⟩
         rw [hnj] at hjc HJR HA2'
         have HNJ:=kH hnj
         dsimp only at HMT'
         rw [hnj] at HMT'
         rcases HTR.out with h | ⟨b,off,rfl,hbB,hcell⟩
         · omega
         have hc0:=(bel2.cell (p:=⟨b,off+i,none⟩) (by simp;omega)).trans (hcell i (.slice ja jl.length jc) (by rw [List.getElem?_map,ht];rfl))
         rw [hnj] at hc0
         have hbs:b < wr.heap.size:=by have:=bel2.size;omega
         have hlt':(i:Int) < (nt:Int):=by omega
         have htc':(nt:Int)≤(tc:Int):=by omega
         clear hcell ht hnj hjr hje
         by_cases h32:nj≤32
         · have h32':(nj:Int)≤32:=by omega
           go_wp2
           go_loopg [42] (nj+1) (fun n v42 wr=>∃ (q:Nat),q≤nj∧v42=.int .i64 q∧n+q=nj+1∧(∀ (q2:Nat) (j:Int×List Int×Value),q2 < q→jl[q2]?=some j→jobB k j=true)∧wr.heap[w.heap.size]?=some (setO ⟨c,rv,rs,.slice pa k pc,progs,.slice (some ⟨b,off,none⟩) nt tc,tl⟩)∧Below w.heap.size w wr)
           case atStart=>exact ⟨0,Nat.zero_le _,rfl,rfl,fun q j hq=>by omega,HC2.out,bel2⟩
           case round =>
             obtain ⟨q,hq,rfl,hn,hall,hC3,bel3⟩:=hrel
             have HC3:=kH hC3
             have q7'':=cell_of_row wr w.heap.size 7 _ _ _ hC3
             have q8'':=cell_of_row wr w.heap.size 8 _ _ _ hC3
             simp only [gA,gZ,gS] at q7'' q8''
             have HN3:=kH hn
             have HA3:=kH hall
             have hwsz3:=heap_lt hC3
             have hqn:(q:Int)≤(nj:Int):=by omega
             clear hn hall hC3 q7' q8' hwsz2 hc0
             by_cases hlt2:q < nj
             · obtain ⟨⟨pg,xs,xv⟩,hj⟩:∃ j,jl[q]?=some j:=⟨jl[q]'(by have:=HNJ.out;omega),List.getElem?_eq_getElem _⟩
               obtain ⟨-,-,⟨-,xa,xc,hxv,-⟩,-⟩:=HJE.out _ (List.mem_of_getElem? hj)
               dsimp only at hxv
               subst hxv
               obtain ⟨jat0,jat1⟩:=jobC_at jl q _ hj
               have HMJ2:=kH (HMJ'.out q _ hj)
               have HA3':Hid (jobB k (pg,xs,.slice xa xs.length xc)=true→∀ (q2:Nat) (j:Int×List Int×Value),q2 < q+1→jl[q2]?=some j→jobB k j=true):=fun h q2 j' hq2 hj'=>by
                 by_cases e:q2=q
                 · subst e
                   rw [hj] at hj'
                   injection hj' with hj'
                   subst hj'
                   exact h
                 · exact HA3.out q2 j' (by omega) hj'
               have HDJ:=kH (show (0≤pg∧pg < (k:Int)∧xs.length≤4)↔jobB k (pg,xs,.slice xa xs.length xc)=true by unfold jobB;simp)
               rcases HJR.out with h | ⟨b2,off2,rfl,hbB2,hcell2⟩
               · omega
               have hc1:=(bel3.cell (p:=⟨b2,off2+q * 2,none⟩) (by simp;omega)).trans (hcell2 _ _ jat0)
               have hc2:=(bel3.cell (p:=⟨b2,off2+q * 2+1,none⟩) (by simp;omega)).trans (hcell2 (q * 2+1) _ jat1)
               have hbs2:b2 < wr.heap.size:=by have:=bel3.size;omega
               have hlt2':(q:Int) < (nj:Int):=by omega
               have hjc':(nj:Int)≤(jc:Int):=by omega
               obtain ⟨xn,hxn⟩:∃ n,xs.length=n:=⟨_,rfl⟩
               have HXN:=kH hxn
               rw [hxn] at hc2 HDJ HA3' HMJ2
               clear hcell2 jat0 jat1 hj hxn
               have HB3:=kH (fun o=>box_keep' (below_alloc wr o) HC3.out)
               have HBEL:=kH (fun o=>bel3.trans ((below_alloc wr o).mono bel3.size))
               rcases (show pg < 0∨(0≤pg∧(k:Int)≤pg)∨((0≤pg∧pg < k)∧(4:Int) < xn)∨((0≤pg∧pg < k)∧(xn:Int)≤4) by omega) with z | ⟨z0,z⟩ | ⟨⟨z0,z1⟩,z⟩ | ⟨⟨z0,z1⟩,z⟩
               · have HF:Hid (jobB k (pg,xs,.slice xa xn xc)=false):=by
                   have:=HDJ.out
                   cases hb:jobB k (pg,xs,.slice xa xn xc) with
                   | false=>rfl
                   | true=>have:=this.2 hb;omega
                 go_wp2
                 go_ret
                 exact ⟨by rw [HMJ2.out (by rw [HNP.out];exact HF.out)];rfl,HBEL.out _⟩
               · have HF:Hid (jobB k (pg,xs,.slice xa xn xc)=false):=by
                   have:=HDJ.out
                   cases hb:jobB k (pg,xs,.slice xa xn xc) with
                   | false=>rfl
                   | true=>have:=this.2 hb;omega
                 have z0':¬ pg < 0:=by omega
                 go_wp2
                 go_ret
                 exact ⟨by rw [HMJ2.out (by rw [HNP.out];exact HF.out)];rfl,HBEL.out _⟩
               · have HF:Hid (jobB k (pg,xs,.slice xa xn xc)=false):=by
                   have:=HDJ.out
                   cases hb:jobB k (pg,xs,.slice xa xn xc) with
                   | false=>rfl
                   | true=>have:=this.2 hb;omega
                 have z0':¬ pg < 0:=by omega
                 go_wp2
                 go_ret
                 exact ⟨by rw [HMJ2.out (by rw [HNP.out];exact HF.out)];rfl,HBEL.out _⟩
               · have HF:=kH (HDJ.out.1 ⟨z0,z1,by omega⟩)
                 have z0':¬ pg < 0:=by omega
                 go_wp2
                 go_roundg (nj - q)
                 case measure=>have:=HN3.out;omega
                 case rel=>exact ⟨q+1,by omega,by go_num,by omega,HA3'.out HF.out,HB3.out _,HBEL.out _⟩
             · obtain rfl:q=nj:=by omega
               have HA4:=kH (HA2'.out ⟨h32,fun q2 j hj=>HA3.out q2 j (by have:=(List.getElem?_eq_some_iff.1 hj).1;have:=HNJ.out;omega) hj⟩)
               go_wp2
               go_roundg (nt - i)
               case measure=>have:=HN2.out;omega
               case rel=>exact ⟨i+1,by omega,by go_num,by omega,HA4.out,HC3.out,bel3⟩
         · have h32':(32:Int) < (nj:Int):=by omega
           go_wp2
           go_ret
           exact ⟨by rw [HMT'.out (by omega)];rfl,bel2⟩
       · obtain rfl:i=nt:=by omega
         have HF:=kH (HMA.out (fun q p hp=>HA.out q p (by have:=(List.getElem?_eq_some_iff.1 hp).1;have:=HNP.out;omega) hp) (fun q t ht=>by rw [HNP.out];exact HA2.out q t (by have:=(List.getElem?_eq_some_iff.1 ht).1;have:=HNT.out;omega) ht))
         go_wp2
         go_ret
         exact ⟨by rw [HF.out];rfl,bel2⟩
theorem schMay_calls (w:World) (s:SetD) (hs:SetupR w w.heap.size s):Calls Tryz.prog 30 #[s.val] w (fun e w'=>e=.returned (.bool (mayB s.progs s.tl))∧Below w.heap.size w w'):=by
 by_cases hn:s.tl.length≤8∧s.progs.length≤16
 · exact may_loops w s hs hn
 · exact may_few w s hs hn
end
end Go.Proofs.YtgfogfciobmmpaaGreatDoor
