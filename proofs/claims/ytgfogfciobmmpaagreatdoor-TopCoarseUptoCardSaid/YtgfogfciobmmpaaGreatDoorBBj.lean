/- A part of the proof of a law of carouseltop: Sch2 Kok Copy Sch3. -/
import Derived.Test.YtgfogfciobmmpaaGreatDoorBBh
import Derived.Deep.RegionLaw
import Derived.Deep.RegionHeld3
import Derived.Deep.CutRange
set_option linter.unusedSimpArgs false
set_option linter.unusedVariables false
set_option maxRecDepth 100000
set_option maxHeartbeats 8000000
namespace Go.Proofs.YtgfogfciobmmpaaGreatDoor
open Go.RowKit
section
variable {w0:World}{X:List Nat}{Cs:List aw}{w:World}
theorem Sch_out{s:SW}{wb:Nat}{tbs:List Nat}(hS:ah w0 X (ag wb (eH s)::Cs) w)(hthr:∀ W,aQ X w0 W->aD W 60 1 s.tv tbs.length (tbs.map ptr))(i:Int)(hi:i<0\/(tbs.length:Int)<=i) :
  Calls Tryz.prog 7 #[ptr wb,.int .i64 i] w (fun e w'=>e=.returned db.val/\ah w0 X (ag wb (eH s)::Cs) w'):=by
 have S1:=hS.new aB
 obtain⟨a,cap,hv,-,-⟩:=(hthr w hS.kept).slice
 have c9:=hS.cell 9
 simp only[lX,gA,gZ,gS,hv]at c9
 have hlt:=af hS.h0
 have HS:=kH S1
 clear hS S1 hv hthr
 generalize tbs.length=n at *
 unfold ptr aB at *
 rcases hi with hi|hi
 ·go_enter Tryz.func7,Tryz.ntmps7
  go_wp2
  exact bodyPost_ret (results_cell_row rfl _ _ _ _ _ _ _ rfl HS.out.h0 Tryz.underlying35 rfl cK) rfl ⟨rfl,HS.out.drop⟩
 ·have hnn:¬i<0:=by omega
  go_enter Tryz.func7,Tryz.ntmps7
  go_wp2
  exact bodyPost_ret (results_cell_row rfl _ _ _ _ _ _ _ rfl HS.out.h0 Tryz.underlying35 rfl cK) rfl ⟨rfl,HS.out.drop⟩
theorem DW{s:SW}{u:ST}{wb tb i n:Nat}{tbs:List Nat}(hS:ah w0 X (ag wb (eH s)::ag tb (fD u)::Cs) w)(hthr:∀ W,aQ X w0 W->aD W 60 1 s.tv tbs.length (tbs.map ptr))(hil:i<tbs.length)(htb:tbs[i]?=some tb)
  (hjv:∃ a c,u.jv=.slice a n c) (hov:∃ a c,u.ov=.slice a n c) :
  Calls Tryz.prog 7 #[ptr wb,.int .i64 (i:Int)] w (fun e w'=>e=.returned db.val/\ah w0 X (ag wb (eH s)::ag tb (fD u)::Cs) w'):=by
 have S1:=hS.new aB
 obtain⟨ja,jc,hjv⟩:=hjv
 obtain⟨oa,oc,hov⟩:=hov
 rcases(hthr _ hS.kept).parts with⟨-,h2,-⟩|⟨g,cap,hv,hnc,hcm,hg,hcell⟩
 ·omega
 have g0:=hcell i (ptr tb) (by rw[List.getElem?_map,htb];rfl)
 have c9:=hS.cell 9
 have d0:=hS.sw.cell 0
 have d5:=hS.sw.cell 5
 simp only[lX,gt,gA,gZ,gS,hv,hjv,hov]at c9 d0 d5
 have hlt:=af hS.h0
 have hltt:=af hS.h1
 have hilI:(i:Int)<(tbs.length:Int):=by omega
 have hcapI:(tbs.length:Int)<=(cap:Int):=by omega
 have hi0:¬(i:Int)<0:=by omega
 have HS:=kH S1
 clear hS S1 hv hthr hcell hjv hov htb
 unfold ptr aB at *
 go_enter Tryz.func7,Tryz.ntmps7
 go_wp2_with fail
 go_quiet(fail)
 go_wp2
 exact ah.ret db rfl (HS.out.drewN nq) rfl rfl fun W' SF=>⟨rfl,SF⟩
end
theorem uR(rs:List (Int×Int)):∀ (d i:Nat),i+d<=rs.length->Plc.sumSz rs i<=Plc.sumSz rs (i+d)
 | 0,_,_=>Int.le_refl _
 | d+1,i,h=>by
  have h1:=uR rs d i (by omega)
  have h2:=Plc.sum_snoc rs (i+d) (by omega)
  have h3:=Plc.size_bd (rs.getD (i+d) (0,0)).1 (rs.getD (i+d) (0,0)).2
  rw[show i+(d+1)=i+d+1 by omega,h2]
  omega
theorem reg_ok{c:Plc.Cfg}{rs:List (Int×Int)}(h:Plc.checkE c rs=0){i:Nat}(hi:i<rs.length):Plc.regB (rs.getD i (0,0)).1 (rs.getD i (0,0)).2=true:=by
 by_cases hb:Plc.regB (rs.getD i (0,0)).1 (rs.getD i (0,0)).2=true
 ·exact hb
 ·have:=Plc.check_reg (c:=c) hi (by simpa using hb)
  omega
theorem yf{c:Plc.Cfg}{rs:List (Int×Int)}{code:ByteArray}{xs:List Int}(hE:Plc.checkE c rs=0)(hcode:code.size<=512)(hx:xs.length<=4)(hxi:∀ v∈xs,aI v):KOk (BT c rs code xs) (c.raw+Plc.sumSz rs rs.length):=by
 obtain⟨h1,h2,h3,h4,h5,h6,h7,h8,h9,h10,h11⟩:=of_decide_eq_true (Plc.check_ok hE)
 have hs:=Plc.sum_bd rs rs.length (Nat.le_refl _)
 refine⟨⟨⟨h3,h4⟩,⟨h5,h6⟩,⟨h7,h8⟩⟩,⟨h1,h2⟩,?_,h10,hcode,?_,?_,hx,hxi⟩
 ·show c.raw<=c.raw+_
  omega
 ·show(eA c.raw rs rs.length).length<=8
  rw[lO]
  exact h11
 ·intro r hr
  have hr':r∈eA c.raw rs rs.length:=hr
  unfold eA at hr'
  obtain⟨i,hi,rfl⟩:=List.mem_map.1 hr'
  have hil:=List.mem_range.1 hi
  have hb:=reg_ok hE hil
  obtain⟨b1,b2,b3,b4⟩:=of_decide_eq_true hb
  have hsn:=Plc.sum_snoc rs i hil
  have hm:=uR rs (rs.length-(i+1)) (i+1) (by omega)
  rw[show i+1+(rs.length-(i+1))=rs.length by omega]at hm
  have hsb:=Plc.sum_bd rs i (by omega)
  have hsz:Plc.sizeN (rs.getD i (0,0)).1 (rs.getD i (0,0)).2=kq (rs.getD i (0,0)).1 (rs.getD i (0,0)).2:=by
   unfold Plc.sizeN
   rw[if_pos hb]
   rfl
  rw[hsz]at hsn
  dsimp only
  refine⟨⟨b1,b2⟩,⟨by omega,by omega⟩,⟨b3,b4⟩,by omega⟩
theorem new_at{w0 w:World}{X:List Nat}{Cs:List aw}{x tx:Nat}{k:cl}{rv av:Value}{F:List Nat}{hi:Int}{told:List bM}(h:ah w0 X (jC x k (eS (pf0 rv av) tx (.slice none 0 0)) [] [] [] [] (cZ k.c.ring k.c.writes k.c.stamps k.c.multi) F (cx rv k.regs::Cs)) w) :
  aZ w0 X (cx rv k.regs::Cs) x k rv hi told (.on ⟨cZ k.c.ring k.c.writes k.c.stamps k.c.multi,false,false,[]⟩) w :=
 ⟨_,[],[],[],F,⟨ko,rfl,fun h=>by simp at h,aK,(show(0:Int)<=0+1/\(0:Int)+1<=255 by decide),fun h=>by simp[eS]at h,rfl,fun _=>rfl⟩,rfl,.inl ⟨rfl,h⟩⟩
theorem zA{c:cN}{m:au}(hc:co c)(hm:m.ring=c.ring):ix c ⟨cZ c.ring c.writes c.stamps c.multi,false,false,[]⟩ m:=sG hc hm false (fun _ h=>nomatch h)
section
variable {w0:World}{X:List Nat}{Cs:List aw}{w:World}
theorem vP:(Tryz.prog.info? 90).map (fun i=>(i.zero,i.size,i.bytes))=some (some (.agg #[.int .i64 0,.int .i64 0]),2,16):=by kernel_rfl
theorem vO:(Tryz.prog.info? 9).map (fun i=>(i.zero,i.size,i.bytes))=some (some (.string .empty),1,16):=by kernel_rfl
theorem C5:(Tryz.prog.info? 2).map (fun i=>(i.zero,i.size,i.bytes))=some (some (.int .i64 0),1,8):=by kernel_rfl
theorem vR:(Tryz.prog.info? 68).map (fun i=>(i.zero,i.size,i.bytes))=some (some (.agg #[.int .i64 0,.slice none 0 0]),2,32):=by kernel_rfl
theorem A3:(Tryz.prog.info? 61).map (fun i=>(i.zero,i.size,i.bytes))=some (some (.slice none 0 0),1,24):=by kernel_rfl
theorem CX:(Tryz.prog.info? 28).map (·.size)=some 9:=by kernel_rfl
def ba(l:List (Int×List Int×Value)):List (Int×List Int):=l.map fun j=>(j.1,j.2.1)
structure sY(s s':cQ):Prop where
 c:s'.c=s.c
 rs:s'.rs=s.rs
 progs:s'.progs=s.progs
 tl:s'.tl.map (fun t=>ba t.2)=s.tl.map (fun t=>ba t.2)
def Bk(t:Value×List (Int×List Int×Value)):List aw:=aN 68 2 t.1 t.2.length (gN t.2)::mY t.2
def xN(c:Plc.Cfg)(rv pv tv:Value):Obj:=.cells #[.int .i64 c.raw,.int .i64 c.ring,.int .i64 c.writes,.int .i64 c.stamps,.bool c.multi,.int .i64 c.tries,rv,pv,tv] 28 (0,0)
def z9:Obj:=.cells #[.int .i64 0,.int .i64 0,.int .i64 0,.int .i64 0,.bool false,.int .i64 0,.slice none 0 0,.slice none 0 0,.slice none 0 0] 28 (0,0)
theorem sr(rs:List (Int×Int)):∀ u∈(rs.flatMap fun r=>[Value.int .i64 r.1,.int .i64 r.2]),u.oneCell'=true:=fun u hu=>by
 obtain⟨r,-,h⟩:=List.mem_flatMap.1 hu
 simp only[List.mem_cons,List.not_mem_nil,or_false]at h
 rcases h with rfl|rfl<;>rfl
theorem uS(ps:List ByteArray):∀ u∈ps.map Value.string,u.oneCell'=true:=fun u hu=>by
 obtain⟨r,-,rfl⟩:=List.mem_map.1 hu
 rfl
theorem AY(xs:List Int):∀ u∈bz xs,u.oneCell'=true:=fun u hu=>by
 obtain⟨r,-,rfl⟩:=List.mem_map.1 hu
 rfl
theorem ie{w:World}{B n sz:Nat}{e:TypeId}{v:Value}{vs:List Value}(h:aD w e sz v n vs)(hB:∀ x∈bR v,x<B):ct w B v n sz vs:=by
 refine⟨h.1,?_⟩
 rcases h.parts with⟨rfl,rfl,-⟩|⟨g,cap,rfl,h1,h2,h3,h4⟩
 ·exact⟨_,_,rfl,Nat.le_refl _,Nat.zero_le _,.inl rfl⟩
 ·exact⟨_,_,rfl,h1,h2,.inr ⟨g,0,rfl,hB g (by simp[bR]),fun j u hu=>by rw[Nat.zero_add];exact h4 j u hu⟩⟩
def pq(v:Value):Prop:=∃ a n c,v=.slice a n c/\(a=none\/∃ b off,a=some ⟨b,off,none⟩)
theorem ot{w:World}{e:TypeId}{sz:Nat}{v:Value}{n:Nat}{xs:List Value}(h:aD w e sz v n xs):pq v:=by
 rcases h.parts with⟨rfl,-,-⟩|⟨g,cap,rfl,-⟩
 ·exact⟨_,_,_,rfl,.inl rfl⟩
 ·exact⟨_,_,_,rfl,.inr ⟨_,_,rfl⟩⟩
structure uo(s:cQ):Prop where
 rv:pq s.rv
 pv:pq s.pv
 av:∀ t∈s.tl,∀ j∈t.2,pq j.2.2
theorem oe{l l':List (Value×List (Int×List Int×Value))}(h:l'.map (fun t=>ba t.2)=l.map (fun t=>ba t.2)){t:Value×List (Int×List Int×Value)}(ht:t∈l'):∃ t0∈l,ba t.2=ba t0.2:=by
 have h1:ba t.2∈l'.map (fun t=>ba t.2):=List.mem_map.2 ⟨t,ht,rfl⟩
 rw[h]at h1
 obtain⟨t0,h2,h3⟩:=List.mem_map.1 h1
 exact⟨t0,h2,h3.symm⟩
theorem og{a b:List (Int×List Int×Value)}(h:ba a=ba b):a.length=b.length:=by
 have:=congrArg List.length h
 simpa[ba]using this
theorem oh{a b:List (Int×List Int×Value)}(h:ba a=ba b){j:Int×List Int×Value}(hj:j∈a):∃ j0∈b,j0.1=j.1/\j0.2.1=j.2.1:=by
 have h1:(j.1,j.2.1)∈ba a:=List.mem_map.2 ⟨j,hj,rfl⟩
 rw[h]at h1
 obtain⟨j0,h2,h3⟩:=List.mem_map.1 h1
 simp only[Prod.mk.injEq]at h3
 exact⟨j0,h2,h3.1,h3.2⟩
theorem vK(l:List (Int×List Int×Value))(a:Int)(xs:List Int)(v:Value):gN (l++[(a,xs,v)])=gN l++[.int .i64 a,v]:=by simp[gN]
theorem sF(l:List (Int×List Int×Value))(a:Int)(xs:List Int)(v:Value):mY (l++[(a,xs,v)])=mY l++[cI v xs]:=by simp[mY]
theorem pH{α:Type}(l:List α)(x:α):(l++[x]).length=l.length+1:=by simp
theorem thr_add(l:List (Value×List (Int×List Int×Value)))(v:Value)(jl:List (Int×List Int×Value)):(l++[(v,jl)]).flatMap Bk=l.flatMap Bk++(aN 68 2 v jl.length (gN jl)::mY jl):=by simp[Bk]
theorem fst_add(l:List (Value×List (Int×List Int×Value)))(v:Value)(jl:List (Int×List Int×Value)):(l++[(v,jl)]).map (·.1)=l.map (·.1)++[v]:=by simp
theorem ah.nine{g:Nat}{W:World}(h:ah w0 X (ag g z9::Cs) W)(v0 v1 v2 v3 v4 v5 v6 v7 v8:Value) :
  ah w0 X (ag g (.cells #[v0,v1,v2,v3,v4,v5,v6,v7,v8] 28 (0,0))::Cs) (((((((((W.setCell ⟨g,0,none⟩ v0).setCell ⟨g,1,none⟩ v1).setCell ⟨g,2,none⟩ v2).setCell ⟨g,3,none⟩ v3).setCell ⟨g,4,none⟩ v4).setCell ⟨g,5,none⟩ v5).setCell ⟨g,6,none⟩ v6).setCell ⟨g,7,none⟩ v7).setCell ⟨g,8,none⟩ v8):=by
 have h9:=((((((((h.set 0 v0).set 1 v1).set 2 v2).set 3 v3).set 4 v4).set 5 v5).set 6 v6).set 7 v7).set 8 v8
 simp only[List.setIfInBounds_toArray,List.set_cons_zero,List.set_cons_succ]at h9
 exact h9
theorem sep_in{a i b p1 p2 p3 p4 p5 p6:aw}{J Fl:List aw}{W:World}(h:ah w0 X (a::i::b::p1::p2::p3::p4::p5::p6::(J++Fl)) W):ah w0 X (a::p1::p2::p3::p4::p5::p6::((J++[i])++Fl)) W:=by
 have T1:ah w0 X (a::i::p1::p2::p3::p4::p5::p6::(J++Fl)) W:=(ah.pull [a,i] h).drop
 have T2:ah w0 X (i::(([a,p1,p2,p3,p4,p5,p6]++J)++Fl)) W:=by rw[List.append_assoc];exact T1.sw
 have T3:=T2.push _
 rw[List.append_assoc]at T3
 rw[List.append_assoc]
 exact T3
theorem sep_out{a r p1 p3 p4 p5 p6:aw}{J Fl:List aw}{W:World}(h:ah w0 X (p1::a::r::p3::p4::p5::p6::(J++Fl)) W):ah w0 X (p1::a::p3::p4::p5::p6::(Fl++(r::J))) W:=by
 have T1:ah w0 X (r::p1::a::p3::p4::p5::p6::(J++Fl)) W:=ah.pull [p1,a] h
 have T2:ah w0 X ([p1,a,p3,p4,p5,p6]++((r::J)++Fl)) W:=ah.push [p1,a,p3,p4,p5,p6] T1
 exact T2.perm (List.Perm.append_left _ List.perm_append_comm)
theorem nA(w:World)(s:cQ)(hs:cP w w.heap.size s):Calls Tryz.prog 16 #[s.val] w (fun e w'=>∃ s',e=.returned s'.val/\sY s s'/\cP w' w'.heap.size s'/\uo s'/\Below w.heap.size w w'):=by
 obtain⟨-,ra,rc,hrv,-⟩:=hs.regs.1
 obtain⟨-,pa,pc,hpv,-⟩:=hs.progs.1
 obtain⟨-,ta,tc,htv,htc,-,-⟩:=hs.thr.1
 obtain⟨c,rv,rs,pv,progs,tv,tl⟩:=s
 dsimp only at hrv hpv htv htc
 subst hrv hpv htv
 have HS:=kH hs
 clear hs
 have HB:=kH (fun W (h:Below w.heap.size w W)=>HS.out.below h)
 obtain⟨ri,ryi,rz0,rz1,rz2⟩:=info_parts vP
 obtain⟨si,syi,sz0,sz1,sz2⟩:=info_parts vO
 have S0:ah w [] [] w:=⟨aQ.refl _ _,(fun _ h=>nomatch h),List.nodup_nil,(fun _ h=>nomatch h)⟩
 unfold cQ.val
 dsimp only
 obtain⟨ji,jyi,jz0,jz1,jz2⟩:=info_parts vR
 obtain⟨ii,iyi,iz0,iz1,iz2⟩:=info_parts C5
 obtain⟨ti,tyi,tz0,tz1,tz2⟩:=info_parts A3
 have HRG:Hid (∀ W,Below w.heap.size w W->ct W w.heap.size (.slice ra rs.length rc) rs.length 2 (rs.flatMap fun r=>[.int .i64 r.1,.int .i64 r.2])):=fun W h=>(HB.out W h).regs.1
 have HPR:Hid (∀ W,Below w.heap.size w W->ct W w.heap.size (.slice pa progs.length pc) progs.length 1 (progs.map .string)):=fun W h=>(HB.out W h).progs.1
 have HTR:Hid (∀ W,Below w.heap.size w W->ct W w.heap.size (.slice ta tl.length tc) tl.length 1 (tl.map (·.1))):=fun W h=>(HB.out W h).thr.1
 have HEA:Hid (∀ W,Below w.heap.size w W->∀ t∈tl,DO W w.heap.size t):=fun W h=>(HB.out W h).each
 have hrl:rs.length<=8796093021952:=HS.out.regs.2
 have hpl:progs.length<=8796093022208:=HS.out.progs.2
 have htl:tl.length<=5864062014805:=HS.out.thr.2
 clear HB
 obtain⟨nt,hnt⟩:∃ n,tl.length=n:=⟨_,rfl⟩
 have HNT:=kH hnt
 rw[hnt]at htl htc HTR ⊢
 clear hnt
 obtain⟨sd,hsd⟩:∃ sd:cQ,sd=⟨c,.slice ra rs.length rc,rs,.slice pa progs.length pc,progs,.slice ta nt tc,tl⟩:=⟨_,rfl⟩
 have S3:ah w [] (ag (w.heap.size+1+1) (xN c (.slice none 0 0) (.slice none 0 0) (.slice none 0 0))::ag (w.heap.size+1) z9::ag w.heap.size (jD sd)::[]) (((w.alloc (jD sd)).alloc z9).alloc (xN c (.slice none 0 0) (.slice none 0 0) (.slice none 0 0))):=by
  have h:=((S0.new (jD sd)).new z9).new (xN c (.slice none 0 0) (.slice none 0 0) (.slice none 0 0))
  have e1:(w.alloc (jD sd)).heap.size=w.heap.size+1:=by simp
  have e2:((w.alloc (jD sd)).alloc z9).heap.size=w.heap.size+1+1:=by simp
  rw[e1,e2]at h
  exact h
 subst hsd
 have HS3:=kH S3
 clear S3 S0
 go_enter Tryz.func16,Tryz.ntmps16
 go_wp2_with(first|(at_builtin;refine iI _ rfl (.tmp 15) (.tmp 18) 22 rfl 90 ri _ 2 16 Tryz.underlying22 ryi rz0 rz1 rz2 rfl (by decide) w.heap.size (.slice ra rs.length rc) rs.length _ rfl rfl (HRG.out _ HS3.out.kept.below) (sr rs) (by omega) ?_;intro rv' w2 hr2 hg2 hf2;obtain⟨ra',rc',rfl,-,-⟩:=hr2.slice;have S4:=HS3.out.got_row hr2 hg2 hf2;have k6:=S4.cell1 6;have f6:=S4.froz1 6;have k7:=S4.cell1 7;have f7:=S4.froz1 7;have q7:=(S4.pull [_,_,_]).cell 7;simp only[gA,gZ,gS]at k6 k7 q7;have hlt2:=af S4.h1;have hlt0:=af (S4.pull [_,_,_]).h0;have S5:ah w [] [aN 90 2 (.slice ra' rs.length rc') rs.length (rs.flatMap fun r=>[.int .i64 r.1,.int .i64 r.2]),ag (w.heap.size+1+1) (xN c (.slice ra' rs.length rc') (.slice none 0 0) (.slice none 0 0)),ag (w.heap.size+1) z9,ag w.heap.size (jD ⟨c,.slice ra rs.length rc,rs,.slice pa progs.length pc,progs,.slice ta nt tc,tl⟩)] (w2.setCell ⟨w.heap.size+1+1,6,none⟩ (.slice ra' rs.length rc')):=S4.set1 6 (.slice ra' rs.length rc');have HS5:=kH S5;clear S4 S5 hr2 hg2 hf2)|(at_builtin;go_loud (refine iI _ rfl (.tmp 23) (.tmp 25) 25 rfl 9 si _ 1 16 Tryz.underlying25 syi sz0 sz1 sz2 rfl (by decide) w.heap.size (.slice pa progs.length pc) progs.length _ rfl rfl (HPR.out _ HS5.out.kept.below) (uS progs) (by omega) ?_);intro pv' w3 hr3 hg3 hf3;obtain⟨pa',pc',rfl,-,-⟩:=hr3.slice;have S6:=HS5.out.got_row hr3 hg3 hf3;have k7':=(S6.pull [_,_]).cell 7;have f7':=(S6.pull [_,_]).froz 7;simp only[gA,gZ,gS]at k7';have hlt3:=af (S6.pull [_,_]).h0;have S7:ah w [] [ag (w.heap.size+1+1) (xN c (.slice ra' rs.length rc') (.slice pa' progs.length pc') (.slice none 0 0)),aN 9 1 (.slice pa' progs.length pc') progs.length (progs.map .string),aN 90 2 (.slice ra' rs.length rc') rs.length (rs.flatMap fun r=>[.int .i64 r.1,.int .i64 r.2]),ag (w.heap.size+1) z9,ag w.heap.size (jD ⟨c,.slice ra rs.length rc,rs,.slice pa progs.length pc,progs,.slice ta nt tc,tl⟩)] (w3.setCell ⟨w.heap.size+1+1,7,none⟩ (.slice pa' progs.length pc')):=(S6.pull [_,_]).set 7 (.slice pa' progs.length pc');have HS7:=kH S7;clear S6 S7 hr3 hg3 hf3 k6 f6 k7 f7 q7 hlt2 hlt0))
 go_wp2
 go_loopg[4] (nt+1) (fun n v4 wr=>∃ (i:Nat) (tv':Value) (tl':List (Value×List (Int×List Int×Value))),i<=nt/\v4=.int .i64 i/\n+i=nt+1/\tl'.length=i/\tl'.map (fun t=>ba t.2)=(tl.take i).map (fun t=>ba t.2) /\
  ah w [] (ag (w.heap.size+1+1) (xN c (.slice ra' rs.length rc') (.slice pa' progs.length pc') tv')::aN 61 1 tv' tl'.length (tl'.map (·.1))::ag w.heap.size (jD ⟨c,.slice ra rs.length rc,rs,.slice pa progs.length pc,progs,.slice ta nt tc,tl⟩)::ag (w.heap.size+1) z9::aN 9 1 (.slice pa' progs.length pc') progs.length (progs.map .string)::aN 90 2 (.slice ra' rs.length rc') rs.length (rs.flatMap fun r=>[.int .i64 r.1,.int .i64 r.2])::tl'.flatMap Bk) wr)
 case atStart =>
  refine⟨0,.slice none 0 0,[],Nat.zero_le _,rfl,rfl,rfl,rfl,?_⟩
  have T0:ah w [] [_,_,_,_,_,_] _:=HS7.out.nilRow 61 1
  have T1:ah w [] [_,_,_,_,_,_] _:=T0.pull [_,_,_]
  have T2:ah w [] [_,_,_,_,_,_] _:=T1.pull [_,_,_]
  have T3:ah w [] [_,_,_,_,_,_] _:=T2.pull [_,_,_,_]
  have T4:ah w [] [_,_,_,_,_,_] _:=T3.pull [_,_,_,_,_]
  have T5:ah w [] [_,_,_,_,_,_] _:=T4.pull [_,_,_,_]
  have T6:ah w [] [_,_,_,_,_,_] _:=T5.pull [_,_,_,_,_]
  exact T6
 case round =>
  obtain⟨i,tv',tl',hi,rfl,hn,hlen,hstr,S⟩:=hrel
  obtain⟨ta',tc',rfl,htc',-⟩:=(show aD _ _ 1 tv' tl'.length _ from(S.pull [_]).h0).slice
  have HN:=kH hn
  have HLN:=kH hlen
  have HST:=kH hstr
  have q8:=(S.pull [_,_]).cell 8
  simp only[gA,gZ,gS]at q8
  have hlt0:=af (S.pull [_,_]).h0
  have HSR:=kH S
  have hbel:=S.kept.below
  have hin:(i:Int)<=(nt:Int):=by omega
  clear hn hlen hstr k7' f7' hlt3
  by_cases hlt:i<nt
  ·obtain⟨⟨tv0,jl⟩,ht⟩:∃ t,tl[i]?=some t:=⟨tl[i]'(by have:=HNT.out;omega),List.getElem?_eq_getElem _⟩
   have htm:=List.mem_of_getElem? ht
   obtain⟨⟨-,ja,jc,hjv,hjc,-,-⟩,-,hjl⟩:=HEA.out _ hbel _ htm
   dsimp only at hjv hjc hjl
   subst hjv
   have HJR:Hid (∀ W,Below w.heap.size w W->ct W w.heap.size (.slice ja jl.length jc) jl.length 2 (gN jl)/\∀ j∈jl,JobR W w.heap.size j):=fun W h=>⟨(HEA.out W h _ htm).1,(HEA.out W h _ htm).2.1⟩
   obtain⟨nj,hnj⟩:∃ n,jl.length=n:=⟨_,rfl⟩
   have HNJ:=kH hnj
   have HST':Hid (∀ jl':List (Int×List Int×Value),ba jl'=ba jl->∀ v,(tl'++[(v,jl')]).map (fun t:Value×List (Int×List Int×Value)=>ba t.2)=(tl.take (i+1)).map (fun t:Value×List (Int×List Int×Value)=>ba t.2)):=fun jl' h v=>by
    rw[List.map_append,HST.out,List.take_add_one,ht,List.map_append]
    simp[h]
   obtain⟨-,a0,c0,hv0,-,-,hc0⟩:=HTR.out _ hbel
   injection hv0 with hv1 hv2 hv3
   rcases hc0 with h|⟨b,off,rfl,hbB,hcell⟩
   ·omega
   subst hv1
   have HC0:Hid (∀ W,Below w.heap.size w W->W.cell? ⟨b,off+i,none⟩=some (.slice ja nj jc)):=fun W h=>by
    obtain⟨-,a0,c0,hv0,-,-,hc0⟩:=HTR.out _ h
    injection hv0 with hv1 hv2 hv3
    rcases hc0 with h|⟨b',off',h',-,hcell⟩
    ·omega
    rw[h']at hv1
    injection hv1 with hv1
    injection hv1 with e1 e2 e3
    rw[e1,e2,<-hnj]
    exact hcell i _ (by rw[List.getElem?_map,ht];rfl)
   rw[hnj]at hjc hjl HJR
   have hbs:b<wr.heap.size:=by have:=hbel.size;omega
   have hlt':(i:Int)<(nt:Int):=by omega
   have htcI:(nt:Int)<=(tc:Int):=by omega
   have g0:=HC0.out _ hbel
   clear hcell ht hnj hv2 hv3 S hbel
   go_wp2
   go_loopg[5,6] (nj+1) (fun n v5 v6 ws=>∃ (k:Nat) (jl':List (Int×List Int×Value)),k<=nj/\v6=.int .i64 k/\n+k=nj+1/\jl'.length=k/\ba jl'=ba (jl.take k) /\
    ah w [] (aN 68 2 v5 jl'.length (gN jl')::ag (w.heap.size+1+1) (xN c (.slice ra' rs.length rc') (.slice pa' progs.length pc') (.slice ta' tl'.length tc'))::aN 61 1 (.slice ta' tl'.length tc') tl'.length (tl'.map (·.1))::ag w.heap.size (jD ⟨c,.slice ra rs.length rc,rs,.slice pa progs.length pc,progs,.slice (some ⟨b,off,none⟩) nt tc,tl⟩)::ag (w.heap.size+1) z9::aN 9 1 (.slice pa' progs.length pc') progs.length (progs.map .string)::aN 90 2 (.slice ra' rs.length rc') rs.length (rs.flatMap fun r=>[.int .i64 r.1,.int .i64 r.2])::(mY jl'++tl'.flatMap Bk)) ws)
   case atStart=>exact⟨0,[],Nat.zero_le _,rfl,rfl,rfl,rfl,HSR.out.nilRow 68 2⟩
   case round =>
    obtain⟨k,jl',hk,rfl,hn,hlen,hstr,S⟩:=hrel
    obtain⟨ja',jc',rfl,hjc',-⟩:=(show aD _ _ 2 _ jl'.length _ from S.h0).slice
    have HN2:=kH hn
    have HLN2:=kH hlen
    have HST2:=kH hstr
    have p8:=(S.pull [_,_,_]).cell 8
    simp only[gA,gZ,gS]at p8
    have hlt2:=af (S.pull [_,_,_]).h0
    have HS2:=kH S
    have hbel:=S.kept.below
    have hkn:(k:Int)<=(nj:Int):=by omega
    have hbs2:b<wr.heap.size:=by have:=hbel.size;omega
    have g0':=HC0.out _ hbel
    clear hn hstr q8 hlt0 g0 hbs HSR
    by_cases hltk:k<nj
    ·obtain⟨⟨pg,xs,xv⟩,hj⟩:∃ j,jl[k]?=some j:=⟨jl[k]'(by have:=HNJ.out;omega),List.getElem?_eq_getElem _⟩
     have hjm:=List.mem_of_getElem? hj
     obtain⟨hjr,hje⟩:=HJR.out _ hbel
     obtain⟨hpg,-,⟨-,xa,xc,hxv,-,-,-⟩,hxl⟩:=hje _ hjm
     dsimp only at hpg hxv hxl
     subst hxv
     have HXR:Hid (∀ W,Below w.heap.size w W->ct W w.heap.size (.slice xa xs.length xc) xs.length 1 (bz xs)):=fun W h=>((HJR.out W h).2 _ hjm).2.2.1
     have HST3:Hid (∀ v,ba (jl'++[(pg,xs,v)])=ba (jl.take (k+1))):=fun v=>by
      have h:=HST2.out
      unfold ba at h ⊢
      rw[List.map_append,h,List.take_add_one,hj,List.map_append]
      rfl
     obtain⟨jat0,jat1⟩:=lm jl k _ hj
     obtain⟨-,b0,d0,hv0,-,-,hc0⟩:=hjr
     injection hv0 with hv1 hv2 hv3
     rcases hc0 with h|⟨b2,off2,rfl,hbB2,hcell2⟩
     ·omega
     subst hv1
     have c1:=hcell2 _ _ jat0
     have c2:wr.cell? ⟨b2,off2+k*2+1,none⟩=some (.slice xa xs.length xc):=hcell2 (k*2+1) _ jat1
     have hbs3:b2<wr.heap.size:=by have:=hbel.size;omega
     have hltk':(k:Int)<(nj:Int):=by omega
     have hjcI:(nj:Int)<=(jc:Int):=by omega
     have hlen1:jl'.length+1<=nj:=by omega
     have SN:=HS2.out.new (.cells #[.int .i64 pg,.slice none 0 0] 68 (0,0))
     have x1:=SN.cell 1
     have y1:=SN.froz 1
     simp only[gA,gZ,gS]at x1
     have HSN:=kH SN
     clear hcell2 jat0 jat1 hj hv2 hv3 S SN hje hlen hbel
     go_wp2
     go_region_law(refine pz _ rfl (.tmp 56) (.tmp 65) 66 rfl 2 ii _ 1 8 Tryz.underlying66 iyi iz0 iz1 iz2 rfl (by decide) w.heap.size (.slice xa xs.length xc) xs.length _ rfl rfl (HXR.out _ (HSN.out.drewN _).kept.below) (AY xs) (by omega) ?_;intro av' w5 hr5 hg5 hf5;obtain⟨aa,ac,rfl,-,-⟩:=hr5.slice;have S5:=(HSN.out.drewN _).got_row hr5 hg5 hf5;have z1:=S5.cell1 1;have zf1:=S5.froz1 1;simp only[gA,gZ,gS]at z1;have hltx:=af S5.h1;have HS5':=kH S5;clear S5 hr5 hg5 hf5)
     all_goals
      have S6:=HS5'.out.set1 1 (.slice aa xs.length ac)
      have z0:=S6.cell1 0
      have z1':=S6.cell1 1
      simp only[gA,gZ,gS,List.setIfInBounds_toArray,List.set_cons_succ,List.set_cons_zero]at z0 z1'
      generalize w5.setCell ⟨wr.heap.size,1,none⟩ (.slice aa xs.length ac)=W6 at *
      have HROW:Hid (aD W6 68 2 (.slice ja' jl'.length jc') jl'.length (gN jl')):=(S6.pull [_,_]).h0
      have hltx6:=af S6.h1
      have HS6:=kH S6
      clear S6 z1 zf1 hltx x1 y1 c1 c2 p8 hlt2 g0' hbs2 hbs3
      go_wp2_with(at_builtin;go_loud (refine wpList_append_lies _ rfl (.tmp 68) (.tmp 70) 61 rfl 0 68 ji _ 2 32 Tryz.underlying61 jyi jz0 jz1 jz2 rfl (by decide) (.slice ja' jl'.length jc') jl'.length (gN jl') rfl (World.ownsRow.alloc HROW.out _) ⟨W6.heap.size,0,none⟩ 1 1 [.int .i64 pg,.slice aa xs.length ac] rfl rfl (fun j u hu=>cG (ar rfl) j u hu) (by simp[Value.oneCell']) (by decide) (by unfold maxLen;omega) (by omega) (Nat.zero_le _) _ rfl ?_);intro g7 cap7 w7 hown7 hgrow7 hat7 hgl7;have S7:=((HS6.out.alloc _).pull [_,_]).append hgrow7 hown7 hat7 (Nat.le_refl _);have HS7:=kH S7;clear S7 hown7 hgrow7 hat7 hgl7)
      go_roundg (nj-k)
      case measure=>have:=HN2.out;omega
      case rel =>
       refine⟨k+1,jl'++[(pg,xs,.slice aa xs.length ac)],by omega,by go_num,by have:=HN2.out;omega,by rw[List.length_append,HLN2.out];rfl,HST3.out _,?_⟩
       rw[vK,sF,pH]
       exact sep_in HS7.out
    ·have hK:Hid (ba jl'=ba jl):=by
      have h:=HST2.out
      rw[List.take_of_length_le (by have:=HNJ.out;omega)]at h
      exact h
     have hlen1:tl'.length+1<=nt:=by have:=HLN.out;omega
     have k8:=(S.pull [_]).cell 8
     have kf8:=(S.pull [_]).froz 8
     simp only[gA,gZ,gS]at k8
     have hlt8:=af (S.pull [_]).h0
     have HROWT:Hid (aD wr 61 1 (.slice ta' tl'.length tc') tl'.length (tl'.map (·.1))):=(S.pull [_,_]).h0
     obtain rfl:k=nj:=by omega
     clear S hlen hbel
     go_wp2_with(at_builtin;go_loud (refine wpList_append_lies _ rfl (.tmp 73) (.tmp 75) 26 rfl 0 61 ti _ 1 24 Tryz.underlying26 tyi tz0 tz1 tz2 rfl (by decide) (.slice ta' tl'.length tc') tl'.length (tl'.map (·.1)) rfl (World.ownsRow.alloc HROWT.out _) ⟨wr.heap.size,0,none⟩ 1 1 [.slice ja' jl'.length jc'] rfl rfl (fun j u hu=>cG (ar rfl) j u hu) (by simp[Value.oneCell']) (by decide) (by unfold maxLen;omega) (by omega) (Nat.zero_le _) _ rfl ?_);intro g8 cap8 w8 hown8 hgrow8 hat8 hgl8;have S8:=((HS2.out.alloc _).pull [_,_]).append hgrow8 hown8 hat8 (Nat.le_refl _);have r8:=(S8.pull [_,_]).cell 8;have rf8:=(S8.pull [_,_]).froz 8;simp only[gA,gZ,gS]at r8;have hlt9:=af (S8.pull [_,_]).h0;have HS8:=kH S8;clear S8 hown8 hgrow8 hat8 hgl8)
     go_roundg (nt-i)
     case measure=>have:=HN.out;omega
     case rel =>
      refine⟨i+1,.slice (some ⟨g8,0,none⟩) (tl'.length+1) cap8,tl'++[(.slice ja' jl'.length jc',jl')],by omega,by go_num,by have:=HN.out;omega,by rw[List.length_append,HLN.out];rfl,HST'.out jl' hK.out _,?_⟩
      rw[thr_add,fst_add,pH]
      exact sep_out ((HS8.out.pull [_,_]).set 8 (.slice (some ⟨g8,0,none⟩) (tl'.length+1) cap8))
  ·obtain rfl:i=nt:=by omega
   have HTL:Hid (tl'.map (fun t=>ba t.2)=tl.map (fun t=>ba t.2)):=by
    have h:=HST.out
    rw[List.take_of_length_le (by have:=HNT.out;omega)]at h
    exact h
   have k0:=S.cell 0
   have k1:=S.cell 1
   have k2:=S.cell 2
   have k3:=S.cell 3
   have k4:=S.cell 4
   have k5:=S.cell 5
   have k6:=S.cell 6
   have k7:=S.cell 7
   have k8:=S.cell 8
   simp only[gA,gZ,gS]at k0 k1 k2 k3 k4 k5 k6 k7 k8
   have hltb:=af S.h0
   have SZ:=S.pull [_,_,_]
   have f0:=SZ.froz 0
   have f1:=SZ.froz 1
   have f2:=SZ.froz 2
   have f3:=SZ.froz 3
   have f4:=SZ.froz 4
   have f5:=SZ.froz 5
   have f6:=SZ.froz 6
   have f7:=SZ.froz 7
   have f8:=SZ.froz 8
   have z0:=SZ.cell 0
   have z1:=SZ.cell 1
   have z2:=SZ.cell 2
   have z3:=SZ.cell 3
   have z4:=SZ.cell 4
   have z5:=SZ.cell 5
   have z6:=SZ.cell 6
   have z7:=SZ.cell 7
   have z8:=SZ.cell 8
   simp only[gA,gZ,gS]at z0 z1 z2 z3 z4 z5 z6 z7 z8
   have hltz:=af SZ.h0
   have SZ9:=SZ.nine (.int .i64 c.raw) (.int .i64 c.ring) (.int .i64 c.writes) (.int .i64 c.stamps) (.bool c.multi) (.int .i64 c.tries) (.slice ra' rs.length rc') (.slice pa' progs.length pc') (.slice ta' tl'.length tc')
   have HSZ:=kH SZ9
   clear S SZ SZ9 hbel
   go_wp2
   refine bodyPost_ret (results_cell_row rfl _ _ _ _ _ _ _ rfl HSZ.out.h0 Tryz.underlying28 rfl CX) rfl ⟨⟨c,(.slice ra' rs.length rc'),rs,(.slice pa' progs.length pc'),progs,.slice ta' tl'.length tc',tl'⟩,rfl,⟨rfl,rfl,rfl,HTL.out⟩,?_,?_,HSZ.out.kept.below⟩
   all_goals
    have S9:=HSZ.out
    generalize ((((((((wr.setCell ⟨w.heap.size+1,0,none⟩ (.int .i64 c.raw)).setCell ⟨w.heap.size+1,1,none⟩ (.int .i64 c.ring)).setCell ⟨w.heap.size+1,2,none⟩ (.int .i64 c.writes)).setCell ⟨w.heap.size+1,3,none⟩ (.int .i64 c.stamps)).setCell ⟨w.heap.size+1,4,none⟩ (.bool c.multi)).setCell ⟨w.heap.size+1,5,none⟩ (.int .i64 c.tries)).setCell ⟨w.heap.size+1,6,none⟩ (.slice ra' rs.length rc')).setCell ⟨w.heap.size+1,7,none⟩ (.slice pa' progs.length pc')).setCell ⟨w.heap.size+1,8,none⟩ (.slice ta' tl'.length tc')=W9 at *
    have hreg:aD W9 90 2 (.slice ra' rs.length rc') rs.length (rs.flatMap fun r=>[.int .i64 r.1,.int .i64 r.2]):=(S9.pull [_,_,_,_,_]).h0
    have hstr':aD W9 9 1 (.slice pa' progs.length pc') progs.length (progs.map .string):=(S9.pull [_,_,_,_]).h0
    have hthr':aD W9 61 1 (.slice ta' tl'.length tc') tl'.length (tl'.map (·.1)):=(S9.pull [_,_]).h0
    have hcm:∀ t∈tl',∀ c∈Bk t,c.holds W9:=fun t ht c hc=>S9.holds c (List.mem_cons_of_mem _ (List.mem_cons_of_mem _ (List.mem_cons_of_mem _ (List.mem_cons_of_mem _ (List.mem_cons_of_mem _ (List.mem_cons_of_mem _ (List.mem_flatMap.2 ⟨t,ht,hc⟩)))))))
   ·refine⟨⟨ie hreg hreg.lt,hrl⟩,⟨ie hstr' hstr'.lt,hpl⟩,⟨ie hthr' hthr'.lt,by have:=HLN.out;dsimp only;omega⟩,fun t ht=>?_,HS.out.word⟩
    obtain⟨t0,ht0,hst⟩:=oe HTL.out ht
    obtain⟨-,hj0,hl0⟩:=HEA.out _ S9.kept.below t0 ht0
    have hrow:aD W9 68 2 t.1 t.2.length (gN t.2):=hcm t ht _ List.mem_cons_self
    refine⟨ie hrow hrow.lt,fun j hj=>?_,by rw[og hst];exact hl0⟩
    obtain⟨j0,hjm,e1,e2⟩:=oh hst hj
    obtain⟨q1,q2,-,q4⟩:=hj0 j0 hjm
    have hcr:aD W9 2 1 j.2.2 j.2.1.length (bz j.2.1):=hcm t ht (cI j.2.2 j.2.1) (List.mem_cons_of_mem _ (List.mem_map.2 ⟨j,hj,rfl⟩))
    exact⟨by rw[<-e1];exact q1,by rw[<-e2];exact q2,ie hcr hcr.lt,by rw[<-e2];exact q4⟩
   ·refine⟨ot hreg,ot hstr',fun t ht j hj=>?_⟩
    have hcr:aD W9 2 1 j.2.2 j.2.1.length (bz j.2.1):=hcm t ht (cI j.2.2 j.2.1) (List.mem_cons_of_mem _ (List.mem_map.2 ⟨j,hj,rfl⟩))
    exact ot hcr
end
section
variable {w0:World}{X:List Nat}{Cs:List aw}{w:World}
theorem sizeEv:∀ w,(Go.sizeOf 44).run Tryz.prog w=.ok 19 w:=fun w=>by
 obtain⟨i0,yi,yz0,yz1,yz2⟩:=info_parts gf
 simp[Go.sizeOf,typeInfo,yi,yz1]
theorem s8(hS:ah w0 X Cs w)(g off n c:Nat)(l:List dh)(hl:l.length=n)(hn:n<=1073741824)(hc:∀ (j:Nat) (u:Value),(aL l)[j]?=some u->w.cell? ⟨g,off+j,none⟩=some u) :
  Calls Tryz.prog 22 #[.slice (some ⟨g,off,none⟩) n c] w (fun e w'=>∃ v',e=.returned v'/\ah w0 X (bW v' l::Cs) w'):=by
 obtain⟨i0,yi,yz0,yz1,yz2⟩:=info_parts gf
 refine(Tryz.Clone_ev i0 _ 19 152 yi yz0 yz1 yz2 rfl (by decide) sizeEv g off n c (aL l) w (by rw[fP,hl]) (by unfold maxLen;omega) (by omega) hc (fJ l)).mono ?_
 rintro e w' ⟨v',rfl,hr,-,hb⟩
 refine⟨v',rfl,?_⟩
 subst hl
 exact hS.gotRow hb hr
theorem yY{s:SW}{l:List dh}{wb:Nat}(hS:ah w0 X (ag wb (eH s)::bW s.ev l::Cs) w)(n:Nat)(hn:n<=l.length)(hl:l.length<=1073741824) :
  Calls Tryz.prog 8 #[ptr wb,.int .i64 n] w (fun e w'=>∃ ev,e=.returned ev/\ah w0 X (bW ev (l.drop n)::ag wb (eH s)::bW s.ev l::Cs) w'):=by
 have c10:=hS.cell 10
 simp only[lX,gA,gZ,gS]at c10
 have hlt:=af hS.h0
 have hr:aD w 44 19 s.ev l.length (aL l):=hS.h1
 have hmax:max (n:Int) 0=n:=by omega
 have hmin:min (n:Int) (l.length:Int)=n:=by omega
 have h0n:(0:Int)<=n:=by omega
 have hnl:(n:Int)<=(l.length:Int):=by omega
 rcases hr.parts with⟨hv,h2,-⟩|⟨g,cap,hv,hnc,hcm,hg,hcell⟩
 ·obtain rfl:l=[]:=List.eq_nil_of_length_eq_zero h2
  obtain rfl:n=0:=by simpa using hn
  rw[hv]at c10
  have HS:=kH hS
  clear hS hr hv
  unfold ptr at *
  go_enter Tryz.func8,Tryz.ntmps8
  go_wp2_with fail
  go_region_held3 (fun w'=>w'.cell? ⟨wb,10,none⟩=some (.slice none 0 0)) (go_keep) ((go_at_call 22;refine(Tryz.Clone_ev_nil 0 0 _).mono ?_;rintro e1 w1 ⟨rfl,rfl⟩))
  go_wp2
  go_ret
  exact⟨_,rfl,HS.out.drew.nilRow _ _⟩
 ·have HV:=kH hv
  rw[hv]at c10
  have hdl:(l.drop n).length=l.length-n:=List.length_drop
  have hcx:∀ (W:World),ah w0 X (ag wb (eH s)::bW s.ev l::Cs) W->∀ (j:Nat) (u:Value),(aL (l.drop n))[j]?=some u->W.cell? ⟨g,n*19+j,none⟩=some u:=fun W S j u hu=>by
   have hr2:aD W 44 19 s.ev l.length (aL l):=S.h1
   rw[hv]at hr2
   rcases hr2.parts with⟨h1,-,-⟩|⟨g2,cap2,h1,-,-,-,hcell2⟩
   ·simp at h1
   ·injection h1 with h1 _ _
    injection h1 with h1
    injection h1 with h1 _ _
    rw[fQ,List.getElem?_drop]at hu
    rw[h1]
    exact hcell2 _ u hu
  have hlc:(l.length:Int)<=(cap:Int):=by omega
  by_cases hcap:cap=n
  ·have hn2:l.length-n=0:=by omega
   have HC:=kH (fun(W:World) (S:ah w0 X (ag wb (eH s)::bW s.ev l::Cs) W) c=>s8 S g 0 0 c (l.drop n) (by rw[hdl];exact hn2) (by omega) (fun j u hu=>by
    rw[List.eq_nil_of_length_eq_zero (show(l.drop n).length=0 by rw[hdl];exact hn2)]at hu
    simp[aL]at hu))
   have HS:=kH hS
   clear hS hr hv hcell hcx hdl
   unfold ptr at *
   have hNn:(l.length:Int)=(n:Int):=by omega
   have hN:l.length=n:=by omega
   rw[hN]at c10 hmin hnl hlc HV
   subst hcap
   clear hN hNn hn2 hnc
   go_enter Tryz.func8,Tryz.ntmps8
   go_wp2_with fail
   go_region_held3 (fun w'=>w'.cell? ⟨wb,10,none⟩=some (.slice (some ⟨g,0,none⟩) cap cap)) (go_keep) ((go_at_call 22;(first|refine(HC.out _ HS.out _).mono ?_|refine(HC.out _ (HS.out.drew) _).mono ?_|refine(HC.out _ (HS.out.drewN _) _).mono ?_);rintro e1 w1 ⟨v',rfl,S5⟩;have k10:=S5.cell1 10;simp only[lX,gA,gZ,gS,HV.out]at k10;have HS5:=kH S5;clear S5))
   go_wp2
   go_ret
   exact⟨v',rfl,HS5.out⟩
  ·have HC:=kH (fun(W:World) (S:ah w0 X (ag wb (eH s)::bW s.ev l::Cs) W) c=>s8 S g (n*19) (l.length-n) c (l.drop n) hdl (by omega) (hcx W S))
   have HS:=kH hS
   clear hS hr hv hcell hcx hdl
   unfold ptr at *
   generalize l.length=N at *
   go_enter Tryz.func8,Tryz.ntmps8
   go_wp2_with fail
   go_region_held3 (fun w'=>w'.cell? ⟨wb,10,none⟩=some (.slice (some ⟨g,0,none⟩) N cap)) (go_keep) ((go_at_call 22;(first|refine(HC.out _ HS.out _).mono ?_|refine(HC.out _ (HS.out.drew) _).mono ?_|refine(HC.out _ (HS.out.drewN _) _).mono ?_);rintro e1 w1 ⟨v',rfl,S5⟩;have k10:=S5.cell1 10;simp only[lX,gA,gZ,gS,HV.out]at k10;have HS5:=kH S5;clear S5))
   go_wp2
   go_ret
   exact⟨v',rfl,HS5.out⟩
end
end Go.Proofs.YtgfogfciobmmpaaGreatDoor
