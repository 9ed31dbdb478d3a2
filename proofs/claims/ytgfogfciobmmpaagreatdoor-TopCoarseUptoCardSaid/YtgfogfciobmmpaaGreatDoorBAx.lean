/- A part of the proof of a law of carouseltop: Wrk2 Wrk3 CodCAt. -/
import Derived.Test.YtgfogfciobmmpaaGreatDoorBAv
import Derived.Deep.LoopGhost
import Derived.Deep.RegionWith
import Derived.BigRegion
import Derived.WalkSpells
set_option linter.unusedSimpArgs false
set_option linter.unusedVariables false
set_option maxRecDepth 100000
set_option maxHeartbeats 8000000
namespace Go.Proofs.YtgfogfciobmmpaaGreatDoor
open Go.RowKit
section
variable {w0:World}{X:List Nat}{Cs:List aw}{w:World}{x:Nat}{k:cl}{f:PF}{st cs ts:List Int}{lv:Value}
theorem gY(w:World)(a b:Obj)(n:Nat):Below w.heap.size w (((w.alloc a).alloc b).drewN n):=(((Below.refl _ _).alloc (Nat.le_refl _) _).alloc (by simp) _).trans ⟨rfl,rfl,rfl,Nat.le_refl _,fun _ _=>rfl⟩
def yw:Option Nat->Array Value->Value
 | some n,caps=>.func (.func n) #[] caps
 | none,_=>.nilFunc
def s7(c tk pt:Int)(st cs ts:List Int)(w:World)(e:Ending)(w':World):Prop :=
 Below w.heap.size w w'/\∃ b:Bool,e=.returned (.bool b)/\(b=false->tk<=st.length/\st.length-tk+pt<=32/\(c=26->cs.length≠8)/\(c=27->cs.length≠0)/\(c=29->ts.length≠16))
theorem gw(hS:ah w0 X (pC x k f st cs ts Cs) w)(hok:bX st cs ts)(c o tk pt:Int)(n:Option Nat)(caps:Array Value)(ht:0<=tk/\tk<=1000)(hp:0<=pt/\pt<=1000) :
  Calls Tryz.prog 65 #[.pointer (some ⟨x,12,none⟩),ew c o,.agg #[.int .i64 tk,.int .i64 pt,yw n caps]] w (s7 c tk pt st cs ts w):=by
 have c16:=hS.cell 16
 have c17:=hS.cell 17
 have c18:=hS.cell 18
 simp only[aH,gA,gZ,gS]at c16 c17 c18
 have hlt:=af hS.h0
 obtain⟨a1,p1,hv1,hn1,-⟩:=(hS.h1:aD w 2 1 f.sv st.length (bz st)).slice
 obtain⟨a2,p2,hv2,hn2,-⟩:=(hS.h2:aD w 2 1 f.cv cs.length (bz cs)).slice
 obtain⟨a3,p3,hv3,hn3,-⟩:=(hS.h3:aD w 2 1 f.tv ts.length (bz ts)).slice
 rw[hv1]at c16
 rw[hv2]at c17
 rw[hv3]at c18
 have h1:=hok.stl
 have h2:=hok.csl
 have h3:=hok.tsl
 clear hS hok hv1 hv2 hv3 hn1 hn2 hn3
 obtain⟨ht0,ht1⟩:=ht
 obtain⟨hp0,hp1⟩:=hp
 unfold ew s7
 have hD:∃ v,yw n caps=v/\(v=.nilFunc\/∃ m,v=.func (.func m) #[] caps):=⟨_,rfl,by cases n with|none=>exact .inl rfl|some m=>exact .inr ⟨m,rfl⟩⟩
 obtain⟨dv,hdv,hdc⟩:=hD
 rw[hdv]
 clear hdv
 generalize st.length=n1 at *
 generalize cs.length=n2 at *
 generalize ts.length=n3 at *
 have hw1:IntKind.i64.wrap ((n1:Int)-tk)=(n1:Int)-tk:=IntWalk.i64_in _ (by omega)
 have HW1:=kH hw1
 clear hw1
 rcases(show(n1:Int)<tk\/(tk<=(n1:Int)/\32<(n1:Int)-tk+pt)\/(tk<=(n1:Int)/\(n1:Int)-tk+pt<=32) by omega)with hl|⟨hl,hr⟩|⟨hl,hr⟩
 ·have hl2:(n1:Int)-tk<0:=by omega
  have hw1:=HW1.out
  go_enter Tryz.func65,Tryz.ntmps65
  go_wp2_with fail
  go_quiet(fail)
  go_wp2
  go_ret
  exact⟨gY _ _ _ _,_,rfl,fun hb=>by simp at hb⟩
 ·have hl2:¬(n1:Int)-tk<0:=by omega
  have hw1:=HW1.out
  go_enter Tryz.func65,Tryz.ntmps65
  go_wp2_with fail
  go_quiet(fail)
  go_wp2
  go_ret
  exact⟨gY _ _ _ _,_,rfl,fun hb=>by simp at hb⟩
 ·have hl2:¬(n1:Int)-tk<0:=by omega
  have hr2:¬32<(n1:Int)-tk+pt:=by omega
  have hw1:=HW1.out
  rcases(show c=26\/c=27\/c=29\/(c≠26/\c≠27/\c≠29) by omega)with rfl|rfl|rfl|⟨q1,q2,q3⟩
  ·go_enter Tryz.func65,Tryz.ntmps65
   go_wp2_with fail
   go_quiet(fail)
   go_wp2
   go_ret
   exact⟨gY _ _ _ _,_,rfl,fun hb=>⟨hl,hr,fun h=>by first|omega|(simp at hb;omega),fun h=>by first|omega|(simp at hb;omega),fun h=>by first|omega|(simp at hb;omega)⟩⟩
  ·go_enter Tryz.func65,Tryz.ntmps65
   go_wp2_with fail
   go_quiet(fail)
   go_wp2
   go_ret
   exact⟨gY _ _ _ _,_,rfl,fun hb=>⟨hl,hr,fun h=>by first|omega|(simp at hb;omega),fun h=>by first|omega|(simp at hb;omega),fun h=>by first|omega|(simp at hb;omega)⟩⟩
  ·go_enter Tryz.func65,Tryz.ntmps65
   go_wp2_with fail
   go_quiet(fail)
   go_wp2
   go_ret
   exact⟨gY _ _ _ _,_,rfl,fun hb=>⟨hl,hr,fun h=>by first|omega|(simp at hb;omega),fun h=>by first|omega|(simp at hb;omega),fun h=>by first|omega|(simp at hb;omega)⟩⟩
  ·have e1:(c == 26)=false:=beq_eq_false_iff_ne.2 q1
   have e2:(c == 27)=false:=beq_eq_false_iff_ne.2 q2
   have e3:(c == 29)=false:=beq_eq_false_iff_ne.2 q3
   go_enter Tryz.func65,Tryz.ntmps65
   go_wp2_with fail
   go_quiet(fail)
   go_wp2
   go_ret
   exact⟨gY _ _ _ _,_,rfl,fun hb=>⟨hl,hr,fun h=>absurd h q1,fun h=>absurd h q2,fun h=>absurd h q3⟩⟩
end
section
variable {w0:World}{X:List Nat}{Cs:List aw}{w:World}{x:Nat}{k:cl}{f:PF}{st cs ts:List Int}{lv:Value}
def iZ(c:Nat):Nat:=[0,0,0,0,1,1,2,2,2,2,2,2,2,2,2,2,1,2,2,2,2,2,2,1,0,1,0,0,0,1,0,1,2].getD c 0
def je(c:Nat):Nat:=[0,1,1,1,2,0,2,3,1,1,1,1,1,1,1,1,1,1,1,1,1,1,1,1,0,0,0,0,1,0,0,1,0].getD c 0
def jA(b0 b1 b2 b3 b4 b5 b6 b7 b8 b9 b10 b11 b12 b13:Nat):List Value:=[.nilFunc,.func (.func 120) #[] #[],.func (.func 120) #[] #[],.func (.func 120) #[] #[],.func (.func 121) #[] #[],.func (.func 122) #[] #[],.func (.func 123) #[] #[],.func (.func 124) #[] #[],.func (.func 180) #[] #[ptr b0],.func (.func 180) #[] #[ptr b1],.func (.func 180) #[] #[ptr b2],.func (.func 180) #[] #[ptr b3],.func (.func 180) #[] #[ptr b4],.func (.func 180) #[] #[ptr b5],.func (.func 180) #[] #[ptr b6],.func (.func 180) #[] #[ptr b7],.func (.func 134) #[] #[],.func (.func 180) #[] #[ptr b8],.func (.func 180) #[] #[ptr b9],.func (.func 180) #[] #[ptr b10],.func (.func 180) #[] #[ptr b11],.func (.func 180) #[] #[ptr b12],.func (.func 180) #[] #[ptr b13],.func (.func 142) #[] #[],.func (.func 143) #[] #[],.func (.func 144) #[] #[],.func (.func 145) #[] #[],.func (.func 146) #[] #[],.func (.func 147) #[] #[],.func (.func 148) #[] #[],.nilFunc,.nilFunc,.nilFunc]
def ch(b0 b1 b2 b3 b4 b5 b6 b7 b8 b9 b10 b11 b12 b13:Nat):List aw:=[ag b13 (fj (.func (.func 141) #[] #[])),ag b12 (fj (.func (.func 140) #[] #[])),ag b11 (fj (.func (.func 138) #[] #[])),ag b10 (fj (.func (.func 137) #[] #[])),ag b9 (fj (.func (.func 136) #[] #[])),ag b8 (fj (.func (.func 135) #[] #[])),ag b7 (fj (.func (.func 133) #[] #[])),ag b6 (fj (.func (.func 132) #[] #[])),ag b5 (fj (.func (.func 131) #[] #[])),ag b4 (fj (.func (.func 130) #[] #[])),ag b3 (fj (.func (.func 129) #[] #[])),ag b2 (fj (.func (.func 128) #[] #[])),ag b1 (fj (.func (.func 127) #[] #[])),ag b0 (fj (.func (.func 126) #[] #[]))]
theorem BW(b0 b1 b2 b3 b4 b5 b6 b7 b8 b9 b10 b11 b12 b13:Nat):∀ c:Nat,c<=32->(td b0 b1 b2 b3 b4 b5 b6 b7 b8 b9 b10 b11 b12 b13)[c*3]?=some (.int .i64 (iZ c:Nat))/\(td b0 b1 b2 b3 b4 b5 b6 b7 b8 b9 b10 b11 b12 b13)[c*3+1]?=some (.int .i64 (je c:Nat))/\(td b0 b1 b2 b3 b4 b5 b6 b7 b8 b9 b10 b11 b12 b13)[c*3+2]?=some ((jA b0 b1 b2 b3 b4 b5 b6 b7 b8 b9 b10 b11 b12 b13).getD c .nilFunc)
 | 0,_=>⟨rfl,rfl,rfl⟩
 | 1,_=>⟨rfl,rfl,rfl⟩
 | 2,_=>⟨rfl,rfl,rfl⟩
 | 3,_=>⟨rfl,rfl,rfl⟩
 | 4,_=>⟨rfl,rfl,rfl⟩
 | 5,_=>⟨rfl,rfl,rfl⟩
 | 6,_=>⟨rfl,rfl,rfl⟩
 | 7,_=>⟨rfl,rfl,rfl⟩
 | 8,_=>⟨rfl,rfl,rfl⟩
 | 9,_=>⟨rfl,rfl,rfl⟩
 | 10,_=>⟨rfl,rfl,rfl⟩
 | 11,_=>⟨rfl,rfl,rfl⟩
 | 12,_=>⟨rfl,rfl,rfl⟩
 | 13,_=>⟨rfl,rfl,rfl⟩
 | 14,_=>⟨rfl,rfl,rfl⟩
 | 15,_=>⟨rfl,rfl,rfl⟩
 | 16,_=>⟨rfl,rfl,rfl⟩
 | 17,_=>⟨rfl,rfl,rfl⟩
 | 18,_=>⟨rfl,rfl,rfl⟩
 | 19,_=>⟨rfl,rfl,rfl⟩
 | 20,_=>⟨rfl,rfl,rfl⟩
 | 21,_=>⟨rfl,rfl,rfl⟩
 | 22,_=>⟨rfl,rfl,rfl⟩
 | 23,_=>⟨rfl,rfl,rfl⟩
 | 24,_=>⟨rfl,rfl,rfl⟩
 | 25,_=>⟨rfl,rfl,rfl⟩
 | 26,_=>⟨rfl,rfl,rfl⟩
 | 27,_=>⟨rfl,rfl,rfl⟩
 | 28,_=>⟨rfl,rfl,rfl⟩
 | 29,_=>⟨rfl,rfl,rfl⟩
 | 30,_=>⟨rfl,rfl,rfl⟩
 | 31,_=>⟨rfl,rfl,rfl⟩
 | 32,_=>⟨rfl,rfl,rfl⟩
 | n+33,h=>by omega
theorem fF{P:Program}{fn:Func}{p u:Tmp}{ty:TypeId}(h:fn.results=#[.cell p ty,.tmp u])(tmps:Array Value)(w:World)(g:Nat)(t:TypeId)(cs:Array Value)(fr:Nat×Nat)(d:TypeDesc)
  (hp:tmps.getD p undef=.pointer (some ⟨g,0,none⟩)) (hg:w.heap[g]?=some (.cells cs t fr))
  (hu:P.underlying ty=some d) (hd:(match d with | .struct _ | .array _ _=>true|_=>false)=true) (hi:(P.info? ty).map (·.size)=some cs.size) :
  (results fn tmps).run P w=.ok (.tuple #[.agg cs,tmps.getD u undef]) w:=by
 have e:(results fn tmps).run P w=((asAddr (tmps.getD p undef)).run P w).andThen fun a w₁=>((loadVar ty a).run P w₁).andThen fun x w₂=>.ok (.tuple #[x,tmps.getD u undef]) w₂:=by
  simp only[results,h]
  simp[Sem.run_bind,Result.andThen]
 rw[e,hp]
 simp[asAddr,run_loadVar_row w g t ty cs fr d hg hu hd hi,Result.andThen]
theorem dv_at:∀ c:Nat,c<=32->(∀ b0 b1 b2 b3 b4 b5 b6 b7 b8 b9 b10 b11 b12 b13,(jA b0 b1 b2 b3 b4 b5 b6 b7 b8 b9 b10 b11 b12 b13).getD c .nilFunc=.nilFunc)\/(∃ n:Nat,∀ b0 b1 b2 b3 b4 b5 b6 b7 b8 b9 b10 b11 b12 b13,(jA b0 b1 b2 b3 b4 b5 b6 b7 b8 b9 b10 b11 b12 b13).getD c .nilFunc=.func (.func n) #[] #[]) \/
  ∃ sel:Nat->Nat->Nat->Nat->Nat->Nat->Nat->Nat->Nat->Nat->Nat->Nat->Nat->Nat->Nat,∀ b0 b1 b2 b3 b4 b5 b6 b7 b8 b9 b10 b11 b12 b13,(jA b0 b1 b2 b3 b4 b5 b6 b7 b8 b9 b10 b11 b12 b13).getD c .nilFunc=.func (.func 180) #[] #[ptr (sel b0 b1 b2 b3 b4 b5 b6 b7 b8 b9 b10 b11 b12 b13)]
 | 0,_=>.inl fun _ _ _ _ _ _ _ _ _ _ _ _ _ _=>rfl
 | 1,_=>.inr (.inl ⟨_,fun _ _ _ _ _ _ _ _ _ _ _ _ _ _=>rfl⟩)
 | 2,_=>.inr (.inl ⟨_,fun _ _ _ _ _ _ _ _ _ _ _ _ _ _=>rfl⟩)
 | 3,_=>.inr (.inl ⟨_,fun _ _ _ _ _ _ _ _ _ _ _ _ _ _=>rfl⟩)
 | 4,_=>.inr (.inl ⟨_,fun _ _ _ _ _ _ _ _ _ _ _ _ _ _=>rfl⟩)
 | 5,_=>.inr (.inl ⟨_,fun _ _ _ _ _ _ _ _ _ _ _ _ _ _=>rfl⟩)
 | 6,_=>.inr (.inl ⟨_,fun _ _ _ _ _ _ _ _ _ _ _ _ _ _=>rfl⟩)
 | 7,_=>.inr (.inl ⟨_,fun _ _ _ _ _ _ _ _ _ _ _ _ _ _=>rfl⟩)
 | 8,_=>.inr (.inr ⟨fun b0 b1 b2 b3 b4 b5 b6 b7 b8 b9 b10 b11 b12 b13=>b0,fun _ _ _ _ _ _ _ _ _ _ _ _ _ _=>rfl⟩)
 | 9,_=>.inr (.inr ⟨fun b0 b1 b2 b3 b4 b5 b6 b7 b8 b9 b10 b11 b12 b13=>b1,fun _ _ _ _ _ _ _ _ _ _ _ _ _ _=>rfl⟩)
 | 10,_=>.inr (.inr ⟨fun b0 b1 b2 b3 b4 b5 b6 b7 b8 b9 b10 b11 b12 b13=>b2,fun _ _ _ _ _ _ _ _ _ _ _ _ _ _=>rfl⟩)
 | 11,_=>.inr (.inr ⟨fun b0 b1 b2 b3 b4 b5 b6 b7 b8 b9 b10 b11 b12 b13=>b3,fun _ _ _ _ _ _ _ _ _ _ _ _ _ _=>rfl⟩)
 | 12,_=>.inr (.inr ⟨fun b0 b1 b2 b3 b4 b5 b6 b7 b8 b9 b10 b11 b12 b13=>b4,fun _ _ _ _ _ _ _ _ _ _ _ _ _ _=>rfl⟩)
 | 13,_=>.inr (.inr ⟨fun b0 b1 b2 b3 b4 b5 b6 b7 b8 b9 b10 b11 b12 b13=>b5,fun _ _ _ _ _ _ _ _ _ _ _ _ _ _=>rfl⟩)
 | 14,_=>.inr (.inr ⟨fun b0 b1 b2 b3 b4 b5 b6 b7 b8 b9 b10 b11 b12 b13=>b6,fun _ _ _ _ _ _ _ _ _ _ _ _ _ _=>rfl⟩)
 | 15,_=>.inr (.inr ⟨fun b0 b1 b2 b3 b4 b5 b6 b7 b8 b9 b10 b11 b12 b13=>b7,fun _ _ _ _ _ _ _ _ _ _ _ _ _ _=>rfl⟩)
 | 16,_=>.inr (.inl ⟨_,fun _ _ _ _ _ _ _ _ _ _ _ _ _ _=>rfl⟩)
 | 17,_=>.inr (.inr ⟨fun b0 b1 b2 b3 b4 b5 b6 b7 b8 b9 b10 b11 b12 b13=>b8,fun _ _ _ _ _ _ _ _ _ _ _ _ _ _=>rfl⟩)
 | 18,_=>.inr (.inr ⟨fun b0 b1 b2 b3 b4 b5 b6 b7 b8 b9 b10 b11 b12 b13=>b9,fun _ _ _ _ _ _ _ _ _ _ _ _ _ _=>rfl⟩)
 | 19,_=>.inr (.inr ⟨fun b0 b1 b2 b3 b4 b5 b6 b7 b8 b9 b10 b11 b12 b13=>b10,fun _ _ _ _ _ _ _ _ _ _ _ _ _ _=>rfl⟩)
 | 20,_=>.inr (.inr ⟨fun b0 b1 b2 b3 b4 b5 b6 b7 b8 b9 b10 b11 b12 b13=>b11,fun _ _ _ _ _ _ _ _ _ _ _ _ _ _=>rfl⟩)
 | 21,_=>.inr (.inr ⟨fun b0 b1 b2 b3 b4 b5 b6 b7 b8 b9 b10 b11 b12 b13=>b12,fun _ _ _ _ _ _ _ _ _ _ _ _ _ _=>rfl⟩)
 | 22,_=>.inr (.inr ⟨fun b0 b1 b2 b3 b4 b5 b6 b7 b8 b9 b10 b11 b12 b13=>b13,fun _ _ _ _ _ _ _ _ _ _ _ _ _ _=>rfl⟩)
 | 23,_=>.inr (.inl ⟨_,fun _ _ _ _ _ _ _ _ _ _ _ _ _ _=>rfl⟩)
 | 24,_=>.inr (.inl ⟨_,fun _ _ _ _ _ _ _ _ _ _ _ _ _ _=>rfl⟩)
 | 25,_=>.inr (.inl ⟨_,fun _ _ _ _ _ _ _ _ _ _ _ _ _ _=>rfl⟩)
 | 26,_=>.inr (.inl ⟨_,fun _ _ _ _ _ _ _ _ _ _ _ _ _ _=>rfl⟩)
 | 27,_=>.inr (.inl ⟨_,fun _ _ _ _ _ _ _ _ _ _ _ _ _ _=>rfl⟩)
 | 28,_=>.inr (.inl ⟨_,fun _ _ _ _ _ _ _ _ _ _ _ _ _ _=>rfl⟩)
 | 29,_=>.inr (.inl ⟨_,fun _ _ _ _ _ _ _ _ _ _ _ _ _ _=>rfl⟩)
 | 30,_=>.inl fun _ _ _ _ _ _ _ _ _ _ _ _ _ _=>rfl
 | 31,_=>.inl fun _ _ _ _ _ _ _ _ _ _ _ _ _ _=>rfl
 | 32,_=>.inl fun _ _ _ _ _ _ _ _ _ _ _ _ _ _=>rfl
 | n+33,h=>by omega
theorem mB(hS:ah w0 X (pC x k f st cs ts Cs) w)(c:Nat)(hc:c<=32)(o:Int) :
  Calls Tryz.prog 64 #[ptr x,ew c o] w (fun e w'=>∃ b0 b1 b2 b3 b4 b5 b6 b7 b8 b9 b10 b11 b12 b13,e=.returned (.tuple #[.agg #[.int .i64 (iZ c:Nat),.int .i64 (je c:Nat),(jA b0 b1 b2 b3 b4 b5 b6 b7 b8 b9 b10 b11 b12 b13).getD c .nilFunc],.bool true])/\ah w0 X (pC x k f st cs ts (ch b0 b1 b2 b3 b4 b5 b6 b7 b8 b9 b10 b11 b12 b13++Cs)) w'):=by
 have S1:=(hS.new (fa c o)).new (.cells #[.int .i64 0,.int .i64 0,.nilFunc] 140 (0,0))
 rw[show(w.alloc (fa c o)).heap.size=w.heap.size+1 by simp]at S1
 have HW:=kH (oN S1)
 have HWD:=kH (fun q=>oN (S1.drewN q))
 have hlt:=af hS.h0
 clear hS S1
 unfold ew fa ptr at *
 go_enter Tryz.func64,Tryz.ntmps64
 go_wp2_with fail
 have hb0:=cell_of_row ((w.alloc (fa c o)).alloc (.cells #[.int .i64 0,.int .i64 0,.nilFunc] 140 (0,0))) w.heap.size 0 _ _ _ (bS (ar (w:=w) (o:=fa c o) rfl))
 simp only[gA,gZ]at hb0
 unfold fa at hb0
 generalize hW1:(w.alloc (.cells #[.int .i64 c,.int .i64 o] 135 (0,0))).alloc (.cells #[.int .i64 0,.int .i64 0,.nilFunc] 140 (0,0))=W1 at *
 have HW1:=kH hW1
 clear hW1
 have HCC:=kH hc
 have hc2:(c:Int)<33:=by omega
 have hdv:=dv_at c hc
 rcases hdv with hdv|⟨n,hdv⟩|⟨sel,hdv⟩
 all_goals
  have HDV:=kH hdv
  clear hdv
  go_region_with(first|(go_at_call 100;(first|refine HW.out.mono ?_|refine(HWD.out _).mono ?_);rintro e2 w2 ⟨g,b0,b1,b2,b3,b4,b5,b6,b7,b8,b9,b10,b11,b12,b13,rfl,S2⟩;have hg:=BW b0 b1 b2 b3 b4 b5 b6 b7 b8 b9 b10 b11 b12 b13 c HCC.out;have q0:=S2.cell (c*3);have q1:=S2.cell (c*3+1);have q2:=S2.cell (c*3+2);simp only[gA,hg.1,hg.2.1,hg.2.2,HDV.out]at q0 q1 q2;have S3:=S2.pull [_,_,_,_,_,_,_,_,_,_,_,_,_,_,_];have r0:=S3.cell 0;have r1:=S3.cell 1;have r2:=S3.cell 2;have s0:=S3.froz 0;have s1:=S3.froz 1;have s2:=S3.froz 2;have t0:=(S2.pull [_,_,_,_,_,_,_,_,_,_,_,_,_,_,_,_]).cell 0;simp only[gA,gZ,gS]at r0 r1 r2 t0;have HS2:=kH S2;clear S2 S3 hg))
  all_goals
   have S3:=(((HS2.out.pull [_,_,_,_,_,_,_,_,_,_,_,_,_,_,_]).set 0 (.int .i64 (iZ c:Nat))).set 1 (.int .i64 (je c:Nat))).set 2 ((jA b0 b1 b2 b3 b4 b5 b6 b7 b8 b9 b10 b11 b12 b13).getD c .nilFunc)
   rw[HDV.out]at S3
   have S4:=S3.drop.drop
   go_wp2
   refine bodyPost_ret (fF (p:=4) (u:=5) rfl _ _ _ _ _ _ _ rfl S3.h0 Tryz.underlying140 rfl na) rfl ⟨b0,b1,b2,b3,b4,b5,b6,b7,b8,b9,b10,b11,b12,b13,?_,?_⟩
   rotate_left
   ·have S5:=(S4.pull [_,_,_,_,_,_,_,_,_,_,_,_,_,_]).drop
    exact S5.turn [_,_,_,_,_,_,_,_,_,_,_,_,_,_] [_,_,_,_,_]
   ·rw[HDV.out]
    rfl
end
namespace Cod
open Go.RowKit
def Tabled(w:World):Prop:=0<w.heap.size/\∀ i,i<41->w.cell? ⟨0,i,none⟩=some (.int .u8 (shapeN i:Int))
theorem Tabled.below{w w':World}{B:Nat}(h:Tabled w)(hB:0<B)(hb:Below B w w'):Tabled w' :=
 ⟨Nat.lt_of_lt_of_le h.1 hb.size,fun i hi=>(hb.cell (p:=⟨0,i,none⟩) hB).trans (h.2 i hi)⟩
def zS.val(x:zS):Value:=.tuple #[.agg #[.int .i64 x.code,.int .i64 x.operand],.int .i64 x.n,.int .i64 x.err]
theorem pQ(s:ByteArray)(i:Nat)(h:i<s.size):byteN s.data.toList i=(s[i]'h).toNat:=by
 unfold byteN
 rw[List.getD_eq_getElem?_getD,List.getElem?_eq_getElem (by simpa using h)]
 rfl
theorem Dc(s:ByteArray)(a i:Nat)(h:i<(s.extract a s.size).size):((s.extract a s.size)[i]'h).toNat=byteN s.data.toList (a+i):=by
 rw[ByteArray.size_extract]at h
 rw[pQ s (a+i) (by omega)]
 congr 1
 exact ByteArray.getElem_extract ..
theorem ic{P:Program}{fn:Func}{p u v:Tmp}{ty:TypeId}(h:fn.results=#[.cell p ty,.tmp u,.tmp v])(tmps:Array Value)(w:World)(g:Nat)(t:TypeId)(cs:Array Value)(fr:Nat×Nat)(d:TypeDesc)
  (hp:tmps.getD p undef=.pointer (some ⟨g,0,none⟩)) (hg:w.heap[g]?=some (.cells cs t fr))
  (hu:P.underlying ty=some d) (hd:(match d with | .struct _ | .array _ _=>true|_=>false)=true) (hi:(P.info? ty).map (·.size)=some cs.size) :
  (results fn tmps).run P w=.ok (.tuple #[.agg cs,tmps.getD u undef,tmps.getD v undef]) w:=by
 have e:(results fn tmps).run P w=((asAddr (tmps.getD p undef)).run P w).andThen fun a w₁=>((loadVar ty a).run P w₁).andThen fun x w₂=>.ok (.tuple #[x,tmps.getD u undef,tmps.getD v undef]) w₂:=by
  simp only[results,h]
  simp[Sem.run_bind,Result.andThen]
 rw[e,hp]
 simp[asAddr,run_loadVar_row w g t ty cs fr d hg hu hd hi,Result.andThen]
theorem qO:(Tryz.prog.info? 135).map (·.size)=some 2:=by kernel_rfl
theorem Ec(w:World)(s:ByteArray)(a:Nat)(hs:s.size<=281474976710656)(ht:Tabled w)(ha:a<s.size)(hc:byteN s.data.toList a<41)(hw:a+1+fi (shapeN (byteN s.data.toList a))<=s.size) :
  Calls Tryz.prog 63 #[.string s,.int .i64 (a:Int)] w (dd (atS s.data.toList a).val w):=by
 have hb:=pQ s a ha
 rw[hb]at hc hw
 have hatS:atS s.data.toList (a:Int)=if eV (shapeN (s[a]'ha).toNat) (valueI (shapeN (s[a]'ha).toNat) (vF s.data.toList (a+1) (fi (shapeN (s[a]'ha).toNat))))=true then
   ⟨(s[a]'ha).toNat,valueI (shapeN (s[a]'ha).toNat) (vF s.data.toList (a+1) (fi (shapeN (s[a]'ha).toNat))),1+fi (shapeN (s[a]'ha).toNat),0⟩else noSpot:=by
  have hl:s.data.toList.length=s.size:=by simp
  unfold atS
  rw[if_neg (by omega),Int.toNat_natCast,hb,if_neg (by omega),if_neg (by omega)]
 have HAT:=kH hatS
 have hcell:=ht.2 _ hc
 have h0:=ht.1
 have hsh:=shape_le (s[a]'ha).toNat
 have hwl:=uB (shapeN (s[a]'ha).toNat)
 have HW:=kH (fun w=>oP _ hsh w)
 have ha':(a:Int)<(s.size:Int):=by omega
 have hd1:decide (s.size-(a+1)<fi (shapeN (s[a]'ha).toNat))=false:=by simp;omega
 have hd2:decide ((41:Int)<=((s[a]'ha).toNat:Int))=false:=by simp;omega
 clear hb hatS
 go_enter Tryz.func63,Tryz.ntmps63
 go_wp2_with(go_at_call 97;refine(HW.out _).mono ?_;rintro e w' ⟨rfl,rfl⟩)
 generalize hWd:fi (shapeN (s[a]'ha).toNat)=W at *
 have HWD:=kH hWd
 clear hWd
 go_loop [10,45] (fun vn vk=>∃ k:Nat,k<=W/\vk=.int .i64 k/\vn=.int .u64 (vF s.data.toList (a+1) k:Nat)) (fun _ vk=>W-(intOf vk).toNat)
 case atStart=>exact⟨0,Nat.zero_le _,rfl,rfl⟩
 case round =>
  obtain⟨k,hk,rfl,rfl⟩:=hrel
  have HLT:=kH (x8 s.data.toList k (a+1))
  by_cases hlt:k<W
  ·have hkl:(k:Int)<(W:Int):=by omega
   have HSN:=kH (vE s.data.toList k (a+1))
   go_wp2
   go_round
   case rel =>
    refine⟨k+1,by omega,by go_num,?_⟩
    congr 1
    rw[or_step _ _ k HLT.out (UInt8.toNat_lt _) (by omega),Dc,HSN.out]
   case measure=>simp[intOf];omega
  ·have hkW:k=W:=by omega
   subst hkW
   have hle8:=leF_lt8 s.data.toList k (a+1) hwl
   have HV:=kH (fun w=>uG _ hsh _ hle8 w)
   have HVR:=uF (shapeN (s[a]'ha).toNat) (vF s.data.toList (a+1) k)
   have HF:=kH (fun w=>yv _ hsh _ HVR.1 HVR.2 w)
   have HLE:=kH hle8
   clear hle8 HVR
   have HAT2:=HAT.out
   generalize vF s.data.toList (a+1) k=n at *
   generalize hVV:valueI (shapeN (s[a]'ha).toNat) n=V at *
   have HVV:=kH hVV
   clear hVV
   by_cases hfit:eV (shapeN (s[a]'ha).toNat) V=true
   ·rw[if_pos hfit]at HAT2
    have HAT3:=kH HAT2
    clear HAT2
    go_wp2
    go_region_with((first|(go_at_call 98;refine(HV.out _).mono ?_;rintro e w' ⟨rfl,rfl⟩)))
    all_goals
     go_wp2_with(go_at_call 99;refine(HF.out _).mono ?_;rintro e w' ⟨rfl,rfl⟩)
     rw[HAT3.out]
     refine bodyPost_ret (v:=.tuple #[.agg #[.int .i64 ((s[a]'ha).toNat:Int),.int .i64 V],.int .i64 (1+(k:Int)),.int .i64 0]) (ic (p:=4) (u:=5) (v:=6) rfl _ _ w.heap.size 135 #[.int .i64 ((s[a]'ha).toNat:Int),.int .i64 V] (0,0) _ rfl ?_ Tryz.underlying135 rfl qO) rfl ⟨rfl,?_⟩
     ·exact kO (aj rfl)
     ·exact(bA (ai _ _) _).trans ⟨rfl,rfl,rfl,Nat.le_refl _,fun _ _=>rfl⟩
   ·rw[if_neg hfit]at HAT2
    have HAT3:=kH HAT2
    have hfit':eV (shapeN (s[a]'ha).toNat) V=false:=by simpa using hfit
    clear HAT2 hfit
    go_wp2
    go_region_with((first|(go_at_call 98;refine(HV.out _).mono ?_;rintro e w' ⟨rfl,rfl⟩)))
    all_goals
     go_wp2_with(go_at_call 99;refine(HF.out _).mono ?_;rintro e w' ⟨rfl,rfl⟩)
     rw[HAT3.out]
     refine bodyPost_ret (v:=.tuple #[.agg #[.int .i64 0,.int .i64 0],.int .i64 0,.int .i64 10]) (ic (p:=4) (u:=5) (v:=6) rfl _ _ w.heap.size 135 #[.int .i64 0,.int .i64 0] (0,0) _ rfl ?_ Tryz.underlying135 rfl qO) rfl ⟨rfl,?_⟩
     ·exact kO (aj rfl)
     ·exact(bA (ai _ _) _).trans ⟨rfl,rfl,rfl,Nat.le_refl _,fun _ _=>rfl⟩
theorem Eb(w:World)(s:ByteArray)(a:Nat)(hs:s.size<=281474976710656)(ht:Tabled w)(ha:a<s.size)(hc:byteN s.data.toList a<41)(hw:s.size<a+1+fi (shapeN (byteN s.data.toList a))) :
  Calls Tryz.prog 63 #[.string s,.int .i64 (a:Int)] w (dd noSpot.val w):=by
 have hb:=pQ s a ha
 rw[hb]at hc hw
 have hcell:=ht.2 _ hc
 have h0:=ht.1
 have hsh:=shape_le (s[a]'ha).toNat
 have hwl:=uB (shapeN (s[a]'ha).toNat)
 have HW:=kH (fun w=>oP _ hsh w)
 have ha':(a:Int)<(s.size:Int):=by omega
 have hd1:decide (s.size-(a+1)<fi (shapeN (s[a]'ha).toNat))=true:=by simp;omega
 clear hb
 go_enter Tryz.func63,Tryz.ntmps63
 go_wp2_with(go_at_call 97;refine(HW.out _).mono ?_;rintro e w' ⟨rfl,rfl⟩)
 refine bodyPost_ret (ic (p:=4) (u:=5) (v:=6) rfl _ _ _ _ _ _ _ rfl (aj rfl) Tryz.underlying135 rfl qO) rfl ⟨rfl,ai _ _⟩
theorem At_out(w:World)(s:ByteArray)(a:Int)(_hs:s.size<=281474976710656)(ha:a<0\/s.size<=a) :
  Calls Tryz.prog 63 #[.string s,.int .i64 a] w (dd noSpot.val w):=by
 rcases(show a<0\/(0<=a/\s.size<=a)from by omega)with h|⟨h,h'⟩
 all_goals
  clear ha
  go_enter Tryz.func63,Tryz.ntmps63
  go_wp2
  refine bodyPost_ret (ic (p:=4) (u:=5) (v:=6) rfl _ _ _ _ _ _ _ rfl (aj rfl) Tryz.underlying135 rfl qO) rfl ⟨rfl,ai _ _⟩
theorem At_bad(w:World)(s:ByteArray)(a:Nat)(_hs:s.size<=281474976710656)(ha:a<s.size)(hc:41<=byteN s.data.toList a) :
  Calls Tryz.prog 63 #[.string s,.int .i64 (a:Int)] w (dd noSpot.val w):=by
 have hb:=pQ s a ha
 rw[hb]at hc
 have ha':(a:Int)<(s.size:Int):=by omega
 have hd2:decide ((41:Int)<=((s[a]'ha).toNat:Int))=true:=by simp;omega
 clear hb
 go_enter Tryz.func63,Tryz.ntmps63
 go_wp2
 refine bodyPost_ret (ic (p:=4) (u:=5) (v:=6) rfl _ _ _ _ _ _ _ rfl (aj rfl) Tryz.underlying135 rfl qO) rfl ⟨rfl,ai _ _⟩
theorem CodeAt_calls(w:World)(s:ByteArray)(a:Int)(hs:s.size<=281474976710656)(ht:Tabled w) :
  Calls Tryz.prog 63 #[.string s,.int .i64 a] w (dd (atS s.data.toList a).val w):=by
 have hl:s.data.toList.length=s.size:=by simp
 by_cases h1:a<0\/s.size<=a
 ·have e:atS s.data.toList a=noSpot:=by unfold atS;rw[if_pos (by omega)]
  rw[e]
  exact At_out w s a hs h1
 ·obtain⟨a,rfl⟩:=Int.eq_ofNat_of_zero_le (show 0<=a by omega)
  by_cases h2:41<=byteN s.data.toList a
  ·have e:atS s.data.toList a=noSpot:=by unfold atS;rw[if_neg (by omega),Int.toNat_natCast,if_pos h2]
   rw[e]
   exact At_bad w s a hs (by omega) h2
  ·by_cases h3:s.size<a+1+fi (shapeN (byteN s.data.toList a))
   ·have e:atS s.data.toList a=noSpot:=by unfold atS;rw[if_neg (by omega),Int.toNat_natCast,if_neg h2,if_pos (by omega)]
    rw[e]
    exact Eb w s a hs ht (by omega) (by omega) h3
   ·exact Ec w s a hs ht (by omega) (by omega) (by omega)
end Cod
end Go.Proofs.YtgfogfciobmmpaaGreatDoor
