/- A part of the proof of the law TopTells: Wnt2 Ask Dic Dic2 Dic3 Dic4. -/
import Derived.Test.YtgfogfciobmmpaaGreatDoorPBf
import Derived.Test.YtgfogfciobmmpaaGreatDoorPBh
import Derived.Test.YtgfogfciobmmpaaGreatDoorPBj
set_option linter.unusedSimpArgs false
set_option linter.unusedVariables false
set_option maxRecDepth 100000
set_option maxHeartbeats 8000000
namespace Go.Proofs.YtgfogfciobmmpaaGreatDoor
section
open Go.RowKit
variable {w0:World} {X:List Nat} {Cs:List Comp} {w:World} {x p L:Nat} {k:PCfg} {f:PF} {st cs ts:List Int} {t:TxD} {F F2:List Nat} {old:List EvD} {m:MemD} {y:WantD} {c:CameD}
theorem JobPost.blk1 {a:Comp} {g:Nat} {o:Obj} {nx:JNext} {w':World} (h:JobPost w0 X (a::cBlk g o::Cs) x k f c old t nx w'):w'.heap[g]?=some o:=by
 cases nx with
 | on j =>
   obtain ⟨f',st,cs,ts,F',h1,h2,hS⟩:=h
   exact (hS.pull [_,_,_,_,_,_,_,_]).h0
 | over =>
   obtain ⟨f',st,cs,ts,F',h1,hS⟩:=h
   exact (hS.pull [_,_,_,_,_,_,_,_]).h0
theorem JobPost.ret1 {a:Comp} {g:Nat} {nx:JNext} {W:World} {a0 b0 c0 d0:Value} {fn:Func} {Q:Ending→World→Prop} {act:Act} {q:Tmp} (an:AnsD) (hres:fn.results=#[.cell q 35])
   (h:JobPost w0 X (a::cBlk g (.cells #[a0,b0,c0,d0] 35 (0,0))::Cs) x k f c old t nx W) (hg:act.tmps.getD q undef=.pointer (some ⟨g,0,none⟩)) (hd:act.defers=[])
   (hQ:∀ W',JobPost w0 X (a::Cs) x k f c old t nx W'→Q (.returned an.val) W') :
   bodyPost Tryz.prog fn Q .ret act ((((W.setCell ⟨g,0,none⟩ (.int .i64 an.kind)).setCell ⟨g,1,none⟩ (.int .i64 an.err)).setCell ⟨g,2,none⟩ (.int .i64 an.value)).setCell ⟨g,3,none⟩ (.bool an.access)):=by
 cases nx with
 | on j =>
   obtain ⟨f',st,cs,ts,F',h1,h2,hS⟩:=h
   exact Sep.ret an hres (hS.pull [_,_,_,_,_,_,_,_]) hg hd fun W' SF=>hQ W' ⟨f',st,cs,ts,F',h1,h2,SF⟩
 | over =>
   obtain ⟨f',st,cs,ts,F',h1,hS⟩:=h
   exact Sep.ret an hres (hS.pull [_,_,_,_,_,_,_,_]) hg hd fun W' SF=>hQ W' ⟨f',st,cs,ts,F',h1,SF⟩
theorem aborts_prog (hS:Sep w0 X (jC x k f st cs ts old t F (cMem p m L F2::Cs)) w) (hok:StOk st cs ts) (hb:f.begun=true) (hw:I64 f.word) (hnth:0≤f.nth∧f.nth≤255) (hkt:k.tries≤255) (hov:f.over=false)
   (hc:CfgOk k.c) (htx:TxOk k.c t m) (hway:t.way=.no) (er:Int) (hfit:fitsT m t ⟨5,0,0,er⟩=true) (hn:t.told.length≤1073741820) (ho:old.length+t.told.length≤1073741820) (hL:L≤1073741824) (th:Int) :
   Calls Tryz.prog 62 #[ptr x,ptr p,.int .i64 th,.int .i64 er] w (WantPost w0 X Cs x p L k f old .nothing (txDo m t ⟨5,0,0,er⟩)):=by
 have S1:Sep w0 X (jC x k f st cs ts old t F (cMem p m L F2::cBlk w.heap.size ans0::Cs)) (w.alloc ans0):=(hS.new ans0).push [_,_,_,_,_,_,_,_]
 have HWN:=kH (wants_prog S1 hok hb hw hnth hkt hov .nothing (by simp) (by simp) hc htx hway hfit i64_0 hn ho hL th)
 clear hS S1
 generalize txDo m t ⟨5,0,0,er⟩=R at *
 unfold wantV ans0 CameD.val ptr at *
 simp only at HWN
 go_enter Tryz.func62,Tryz.ntmps62
 go_wp2_with fail
 refine HWN.out.mono ?_
 rintro e1 w1 ⟨nx,F3,L',hL',rfl,hcome,hjob⟩
 obtain ⟨⟨a0,a1,a2,a3⟩,⟨g0,g1,g2,g3⟩⟩:=box4a hjob.blk1
 unfold AnsD.val
 have HJ:=kH hjob
 have HCO:=kH hcome
 clear hjob hcome
 go_wp2
 exact JobPost.ret1 (comeA R.1 CameD.nothing.fin) rfl HJ.out rfl rfl fun W' hj=>⟨nx,F3,L',hL',rfl,HCO.out,hj⟩
theorem plain_prog (hS:Sep w0 X (cBlk x (progO k f)::Cs) w) (hk:1≤k.raw∧k.raw≤64) (q:Int) :
   Calls Tryz.prog 68 #[ptr x,.int .i64 q] w (fun e w'=>∃ c,0≤c∧c < k.raw∧e=.returned (.int .i64 c)∧w=w'):=by
 have c0:=hS.cell 0
 simp only [progA,gA,gZ,gS] at c0
 clear hS
 obtain ⟨h1,h2⟩:=hk
 generalize k.raw=r at *
 unfold ptr at *
 go_enter Tryz.func68,Tryz.ntmps68
 go_wp2
 go_ret
 have hu:0≤IntKind.u64.wrap q:=by rw [IntKind.wrap_u64];omega
 have e:=Int.tmod_eq_emod_of_nonneg (b:=r) hu
 have e1:=Int.emod_nonneg (IntKind.u64.wrap q) (show r≠0 by omega)
 have e2:=Int.emod_lt_of_pos (IntKind.u64.wrap q) (show 0 < r by omega)
 have e3:wrap64 ((IntKind.u64.wrap q).tmod r)=IntKind.u64.wrap q % r:=by rw [e];unfold wrap64;omega
 exact ⟨_,by rw [e3];exact e1,by rw [e3];exact e2,rfl,rfl⟩
theorem regCells_at:∀ (l:List (Int×Int×Int)) (j:Nat),j < l.length→(regCells l)[j * 3]?=some (.int .i64 (l.getD j (0,0,0)).1)∧(regCells l)[j * 3+1]?=some (.int .i64 (l.getD j (0,0,0)).2.1)∧(regCells l)[j * 3+2]?=some (.int .i64 (l.getD j (0,0,0)).2.2)
 | [],j,h=>by simp at h
 | r::l,0,_=>⟨rfl,rfl,rfl⟩
 | r::l,j+1,h=>by
   have ih:=regCells_at l j (by simpa using h)
   have e:regCells (r::l)=.int .i64 r.1::.int .i64 r.2.1::.int .i64 r.2.2::regCells l:=rfl
   rw [e,show (j+1) * 3=j * 3+1+1+1 by omega]
   refine ⟨?_,?_,?_⟩
   · simpa using ih.1
   · rw [show j * 3+1+1+1+1=j * 3+1+1+1+1 by rfl]
     simpa using ih.2.1
   · rw [show j * 3+1+1+1+2=j * 3+2+1+1+1 by omega]
     simpa using ih.2.2
def WorkHigh (k:PCfg) (c:Int) (j:Nat) (w0:World) (X:List Nat) (Cs:List Comp) (e:Ending) (w':World):Prop :=
 ∃ (tk pt:Int) (b:Bool),e=.returned (.tuple #[.agg #[.int .i64 tk,.int .i64 pt,.nilFunc],.bool b])∧(b=true→j < k.regs.length∧tk=arityP (k.regs.getD j (0,0,0)).1 (c - 32)∧pt=2∧0≤tk)∧Sep w0 X Cs w'
theorem work_high (hS:Sep w0 X (cBlk x (progO k f)::cReg f.rv k.regs::Cs) w) (c:Int) (hc:33≤c∧c≤40) (j:Nat) (hj:j≤255) (hr:k.regs.length≤8) (hk:∀ r∈k.regs,1≤r.1∧r.1≤4) :
   Calls Tryz.prog 64 #[ptr x,opV c (j:Int)] w (WorkHigh k c j w0 X (cBlk x (progO k f)::cReg f.rv k.regs::Cs)):=by
 have c8:=hS.cell 8
 simp only [progA,gA,gZ,gS] at c8
 have hlt:=heap_lt hS.h0
 have hrow:RowAt w 103 3 f.rv k.regs.length (regCells k.regs):=hS.h1
 obtain ⟨h1,h2⟩:=hc
 have S1:=(hS.new (opO c (j:Int))).new (.cells #[.int .i64 0,.int .i64 0,.nilFunc] 140 (0,0))
 rw [show (w.alloc (opO c (j:Int))).heap.size=w.heap.size+1 by simp] at S1
 unfold opO at S1
 have HS:=kH S1
 have hcc:¬ c≤32:=by omega
 clear S1
 by_cases hl:j < k.regs.length
 · rcases hrow.parts with ⟨q1,q2,q3⟩ | ⟨g,cap,hv,hnc,hcm,hg,hcell⟩
   · omega
   obtain ⟨r0,r1,r2⟩:=regCells_at k.regs j hl
   have d0:=hcell _ _ r0
   have hkj:1≤(k.regs.getD j (0,0,0)).1∧(k.regs.getD j (0,0,0)).1≤4:=by
     rw [List.getD_eq_getElem?_getD,List.getElem?_eq_getElem hl]
     exact hk _ (List.getElem_mem hl)
   have HKJ:=kH hkj
   rw [hv] at c8
   clear hS hrow hcell hv hk hkj r0 r1 r2
   obtain ⟨kd,hkd⟩:∃ kd,(k.regs.getD j (0,0,0)).1=kd:=⟨_,rfl⟩
   have HKD:=kH hkd
   rw [hkd] at d0
   obtain ⟨n,hn⟩:∃ n,k.regs.length=n:=⟨_,rfl⟩
   have HN:=kH hn
   rw [hn] at c8 hnc hl hr
   have HA:=kH (fun W=>arity_prog (kind:=kd) (call:=c - 32) (hkd ▸ HKJ.out) (by omega) W)
   clear hkd hn
   have hw32:IntKind.i64.wrap (c - 32)=c - 32:=IntWalk.i64_in _ (by omega)
   unfold opV ptr at *
   go_enter Tryz.func64,Tryz.ntmps64
   go_wp2_with fail
   go_quiet (fail)
   go_wp2_with fail
   go_region_held3 (fun w'=>w'.cell? ⟨x,8,none⟩=some (.slice (some ⟨g,0,none⟩) n cap)∧w'.cell? ⟨g,j * 3,none⟩=some (.int .i64 kd)∧w'.cell? ⟨w.heap.size,0,none⟩=some (.int .i64 c)∧w'.cell? ⟨w.heap.size,1,none⟩=some (.int .i64 (j:Int))) (go_keep) (first | (go_at_call 101;refine (HA.out _).mono ?_;rintro e1 w1 ⟨rfl,rfl⟩))
   all_goals
     have S3:=(((HS.out.drewN (nq+1)).set 0 (.int .i64 (arityP kd (c - 32)))).set 1 (.int .i64 2)).set 2 .nilFunc
     go_wp2
     refine bodyPost_ret (results_two (p:=4) (u:=5) rfl _ _ _ _ _ _ _ rfl S3.h0 Tryz.underlying140 rfl infoWork) rfl ⟨(arityP kd (c - 32)),2,decide (0≤arityP kd (c - 32)),rfl,fun hb=>⟨by rw [HN.out];exact hl,by rw [HKD.out],rfl,of_decide_eq_true hb⟩,S3.drop.drop⟩
 · obtain ⟨a,cap,hv,hnc,hcm⟩:=hrow.slice
   rw [hv] at c8
   clear hS hrow hv hk
   obtain ⟨n,hn⟩:∃ n,k.regs.length=n:=⟨_,rfl⟩
   have HN:=kH hn
   rw [hn] at c8 hnc hl hr
   clear hn
   unfold opV ptr at *
   go_enter Tryz.func64,Tryz.ntmps64
   go_wp2_with fail
   go_quiet (fail)
   have S3:=(((HS.out.drewN nq).set 0 (.int .i64 0)).set 1 (.int .i64 0)).set 2 .nilFunc
   go_wp2
   refine bodyPost_ret (results_two (p:=4) (u:=5) rfl _ _ _ _ _ _ _ rfl S3.h0 Tryz.underlying140 rfl infoWork) rfl ⟨0,0,false,rfl,fun hb=>by simp at hb,S3.drop.drop⟩
end
section
open Go.RowKit
variable {w0:World} {X:List Nat} {Cs:List Comp} {w:World}
structure AskK where
 S:Type
 ty:TypeId
 fn:Nat
 rep:World→Nat→S→List Nat→Prop
 out:S→Int→WantS
 step:S→Int→S
 keep:∀ {w w':World} {p:Nat} {m:S} {F:List Nat},rep w p m F→(∀ q∈F,w'.heap[q]?=w.heap[q]?)→rep w' p m F
 mem:∀ {w:World} {p:Nat} {m:S} {F:List Nat},rep w p m F→p∈F∧∀ q∈F,q < w.heap.size
 next:∀ (w:World) (p:Nat) (m:S) (F:List Nat) (v:Int),rep w p m F→Calls Tryz.prog fn #[.pointer (some ⟨p,0,none⟩),.int .i64 v] w
   (fun e w'=>e=.returned (out m v).val∧Kept F w w'∧∃ F',rep w' p (step m v) F'∧∀ k∈F',k∈F∨w.heap.size≤k)
 meth:∀ (v:Value) (w:World),(method 402 ty v "Next").run Tryz.prog w=.ok (fn,v) w
 call:∀ (a:Array Value) (w:World),(callFunc fn a).run Tryz.prog w=.ok (.enter fn a) w
def ded:List Nat→List Nat
 | []=>[]
 | x::l=>if x∈l then ded l else x::ded l
theorem mem_ded {x:Nat}:∀ {l:List Nat},x∈ded l↔x∈l
 | []=>by simp [ded]
 | y::l=>by
   unfold ded
   split
   · rename_i h
     rw [mem_ded,List.mem_cons]
     exact ⟨.inr,fun h'=>h'.elim (fun e=>e ▸ h) id⟩
   · rw [List.mem_cons,List.mem_cons,mem_ded]
theorem nodup_ded:∀ l:List Nat,(ded l).Nodup
 | []=>List.nodup_nil
 | y::l=>by
   unfold ded
   split
   · exact nodup_ded l
   · exact List.nodup_cons.2 ⟨fun h=>by rename_i h';exact h' (mem_ded.1 h),nodup_ded l⟩
def cAsk (K:AskK) (p:Nat) (m:K.S) (F:List Nat):Comp :=
 ⟨ded F,fun W=>K.rep W p m F,fun _ _ h k=>K.keep k fun q hq=>h q (mem_ded.2 hq),fun _ k x hx=>(K.mem k).2 x (mem_ded.1 hx)⟩
def WantS.d (x:WantS):WantD:=⟨x.kind,x.cell,x.value,x.code⟩
theorem Ask_next {K:AskK} {p:Nat} {m:K.S} {F:List Nat} (hS:Sep w0 X (cAsk K p m F::Cs) w) (v:Int) :
   Calls Tryz.prog K.fn #[ptr p,.int .i64 v] w (fun e w'=>e=.returned (wantV (K.out m v).d)∧∃ F',Sep w0 X (cAsk K p (K.step m v) F'::Cs) w'):=by
 have h0:K.rep w p m F:=hS.h0
 refine (K.next w p m F v h0).mono ?_
 rintro e w' ⟨rfl,hg,F',hr,hF⟩
 refine ⟨rfl,F',hS.call1 (C3:=[cAsk K p (K.step m v) F']) ⟨hg.mono fun x hx=>.inl (mem_ded.2 hx),fun c hc=>by rw [List.mem_singleton.1 hc];exact hr,?_,fun x hx=>?_⟩⟩
 · simpa [feet,cAsk] using nodup_ded F'
 · have hx':x∈F':=by simpa [feet,cAsk,mem_ded] using hx
   exact (hF x hx').imp (fun h=>mem_ded.2 h) id
def Good (K:AskK) (hi:Int):Nat→K.S→Prop
 | 0,_=>False
 | n+1,m=>∀ v,I64 v→((K.out m v).kind=6∧I64 (K.out m v).value∧I64 (K.out m v).code) ∨
     (((K.out m v).kind=2∨(K.out m v).kind=3)∧0≤(K.out m v).cell∧(K.out m v).cell < hi∧I64 (K.out m v).value∧Good K hi n (K.step m v))
theorem good_mono {K:AskK} {hi hi':Int} (hh:hi≤hi'):∀ {n n':Nat} {m:K.S},n≤n'→Good K hi n m→Good K hi' n' m
 | 0,_,_,_,h=>h.elim
 | n+1,0,_,hn,_=>by omega
 | n+1,n'+1,m,hn,h=>fun v hv=>(h v hv).imp id fun ⟨h1,h2,h3,h4,h5⟩=>⟨h1,h2,by omega,h4,good_mono hh (by omega) h5⟩
theorem kept_grown {w w':World} {p:Nat} {F:List Nat} (h:w.grownBy w' (some p)) (hp:p∈F):Kept F w w':=(Kept.refl F w).grown h fun q hq=>by
 injection hq with hq
 exact .inl (hq ▸ hp)
def askCnt:AskK where
 S:=Cnt.MS
 ty:=182
 fn:=285
 rep:=Cnt.Rep
 out:=Cnt.outM
 step:=Cnt.stepM
 keep:=fun {w w' p m F} h hk=>by
   obtain ⟨rfl,h⟩:=h
   exact ⟨rfl,(hk p (by simp)).trans h⟩
 mem:=fun {w p m F} h=>by
   obtain ⟨rfl,h⟩:=h
   exact ⟨by simp,fun q hq=>by rw [List.mem_singleton.1 hq];exact heap_lt h⟩
 next:=fun w p m F v h=>(Cnt.Next_calls w p m F v h).mono fun e w' ⟨h1,h2,h3⟩=>⟨h1,kept_grown h2 (by obtain ⟨rfl,_⟩:=h;simp),h3⟩
 meth:=fun v w=>by kernel_rfl
 call:=fun a w=>by kernel_rfl
def askQue:AskK where
 S:=Que.MS
 ty:=185
 fn:=286
 rep:=Que.Rep
 out:=Que.outM
 step:=Que.stepM
 keep:=Que.rep_keep
 mem:=Que.rep_mem
 next:=fun w p m F v h=>(Que.Next_calls w p m F v h).mono fun e w' ⟨h1,h2,h3⟩=>⟨h1,kept_grown h2 (Que.rep_mem h).1,h3⟩
 meth:=fun v w=>by kernel_rfl
 call:=fun a w=>by kernel_rfl
def askChn:AskK where
 S:=Chn.MS
 ty:=191
 fn:=288
 rep:=Chn.Rep
 out:=Chn.outM
 step:=Chn.stepM
 keep:=Chn.rep_keep
 mem:=Chn.rep_mem
 next:=fun w p m F v h=>(Chn.Next_calls w p m F v h).mono fun e w' ⟨h1,h2,h3⟩=>⟨h1,kept_grown h2 (Chn.rep_mem h).1,h3⟩
 meth:=fun v w=>by kernel_rfl
 call:=fun a w=>by kernel_rfl
theorem i64_w (x:Int):I64 (wrap64 x):=by unfold wrap64 I64;omega
theorem cnt_good {base most call:Int} {xs:List Int} (hb:0≤base):Good askCnt (base+most) 3 (Cnt.initM base most call xs):=by
 unfold Cnt.initM
 split
 · intro v hv
   exact .inl ⟨rfl,i64_0,by simp [I64,askCnt,Cnt.outM]⟩
 · rename_i hi
   have h0:0≤base+xs.getD 0 0∧base+xs.getD 0 0 < base+most:=by omega
   generalize base+xs.getD 0 0=c at *
   generalize (if call=1 then xs.getD 1 0 else 0)=d at *
   intro v hv
   refine .inr ⟨.inl rfl,h0.1,h0.2,i64_0,?_⟩
   intro u hu
   cases hc:decide (call=1)
   · exact .inl ⟨rfl,i64_w _,i64_0⟩
   · refine .inr ⟨.inr rfl,h0.1,h0.2,i64_w _,?_⟩
     intro v' hv'
     exact .inl ⟨rfl,i64_w _,i64_0⟩
end
section
open Go.RowKit
variable {w0:World} {X:List Nat} {Cs:List Comp} {w:World} {p:Nat}
theorem Sep.wNew {W:World} {f:Func} {Q:Ending→World→Prop} {act:Act} {q:Tmp} (a:WantS) (hres:f.results=#[.cell q 109])
   {g:Nat} (h:Sep w0 X Cs W) (hg:act.tmps.getD q undef=.pointer (some ⟨g,0,none⟩)) (hge:g=W.heap.size) (hd:act.defers=[]) (hQ:∀ W',Sep w0 X Cs W'→Q (.returned a.val) W') :
   bodyPost Tryz.prog f Q .ret act (W.alloc (.cells #[.int .i64 a.kind,.int .i64 a.cell,.int .i64 a.value,.int .i64 a.code] 109 (0,0))) :=
 bodyPost_ret (results_cell_row hres _ _ _ _ _ _ _ hg (heap_new hge) Tryz.underlying109 rfl infoWant) hd (hQ _ (h.alloc _))
theorem Sep.wRet {a0 b0 c0 d0:Value} {f:Func} {W:World} {Q:Ending→World→Prop} {act:Act} {q:Tmp} {g:Nat} (a:WantS) (hres:f.results=#[.cell q 109])
   (h:Sep w0 X (cBlk g (.cells #[a0,b0,c0,d0] 109 (0,0))::Cs) W) (hg:act.tmps.getD q undef=.pointer (some ⟨g,0,none⟩)) (hd:act.defers=[])
   (hQ:∀ W',Sep w0 X Cs W'→Q (.returned a.val) W') :
   bodyPost Tryz.prog f Q .ret act ((((W.setCell ⟨g,0,none⟩ (.int .i64 a.kind)).setCell ⟨g,1,none⟩ (.int .i64 a.cell)).setCell ⟨g,2,none⟩ (.int .i64 a.value)).setCell ⟨g,3,none⟩ (.int .i64 a.code)):=by
 have h4:=(((h.set 0 (.int .i64 a.kind)).set 1 (.int .i64 a.cell)).set 2 (.int .i64 a.value)).set 3 (.int .i64 a.code)
 exact bodyPost_ret (results_cell_row hres _ _ _ _ _ _ _ hg h4.h0 Tryz.underlying109 rfl infoWant) hd (hQ _ h4.drop)
def sO (x:WantS):Obj:=.cells #[.int .i64 x.kind,.int .i64 x.cell,.int .i64 x.value,.int .i64 x.code] 109 (0,0)
def s0:Obj:=.cells #[.int .i64 0,.int .i64 0,.int .i64 0,.int .i64 0] 109 (0,0)
theorem Sep.wBox {f:Func} {W:World} {Q:Ending→World→Prop} {act:Act} {q:Tmp} {g g':Nat} (a:WantS) (hres:f.results=#[.cell q 109])
   (h:Sep w0 X (cBlk g' (sO a)::Cs) W) (hge:g'=g) (hg:act.tmps.getD q undef=.pointer (some ⟨g,0,none⟩)) (hd:act.defers=[])
   (hQ:Sep w0 X Cs W→Q (.returned a.val) W):bodyPost Tryz.prog f Q .ret act W:=by
 subst hge
 exact bodyPost_ret (results_cell_row hres _ _ _ _ _ _ _ hg h.h0 Tryz.underlying109 rfl infoWant) hd (hQ h.drop)
structure DicD where
 base:Int
 most:Int
 call:Int
 k:Int
 v:Int
 slot:Int
 seen:Int
 free:Int
def dicA (d:DicD) (tv nx:Value):Array Value:=#[.int .i64 d.base,.int .i64 d.most,.int .i64 d.call,.int .i64 d.k,.int .i64 d.v,.int .i64 d.slot,.int .i64 d.seen,.int .i64 d.free,tv,nx]
def dicO (d:DicD) (tv nx:Value):Obj:=.cells (dicA d tv nx) 234 (0,0)
structure DicOk (d:DicD):Prop where
 base:0≤d.base∧d.base≤1024
 most:0≤d.most∧d.most≤16
 k:I64 d.k
 v:I64 d.v
 slot:0≤d.slot∧(d.slot < d.most∨d.slot=0)
 seen:0≤d.seen∧d.seen≤d.most
 free:d.free = -1∨(0≤d.free∧d.free < d.most)
def fnD (n:Nat):Value:=.func (.func n) #[] #[]
theorem Sep.dset {d d':DicD} {tv nx tv' nx':Value} (h:Sep w0 X (cBlk p (dicO d tv nx)::Cs) w) (i:Nat) (v:Value) (he:(dicA d tv nx).setIfInBounds i v=dicA d' tv' nx'):Sep w0 X (cBlk p (dicO d' tv' nx')::Cs) (w.setCell ⟨p,i,none⟩ v):=by
 have h6:=h.set i v
 rw [he] at h6
 exact h6
theorem dAt_calls (n:Int) (h:0≤n∧n≤16) (w:World):Calls Tryz.prog 226 #[.int .i64 n] w (Just (.int .i64 (1+3 * n)) w):=by
 go_enter Tryz.func226,Tryz.ntmps226
 go_wp2
 go_ret
 exact ⟨rfl,rfl⟩
def DicPost (w0:World) (X:List Nat) (Cs:List Comp) (p:Nat) (d:DicD) (tv nx:Value) (x:WantS) (e:Ending) (w':World):Prop :=
 e=.returned x.val∧Sep w0 X (cBlk p (dicO d tv nx)::Cs) w'
theorem dRead_calls {d:DicD} {tv nx:Value} (hS:Sep w0 X (cBlk p (dicO d tv nx)::Cs) w) (hb:0≤d.base∧d.base≤1024) (c:Int) (hc:0≤c∧c≤1000) (n:Nat) :
   Calls Tryz.prog 183 #[ptr p,.int .i64 c,fnD n] w (DicPost w0 X Cs p d tv (fnD n) (readS (d.base+c))):=by
 have c0:=hS.cell 0
 have c9:=hS.cell 9
 have f9:=hS.froz 9
 simp only [dicA,gA,gZ,gS] at c0 c9
 have hlt:=heap_lt hS.h0
 have S1:=hS.dset (d':=d) (tv':=tv) (nx':=fnD n) 9 (fnD n) (by simp [dicA])
 clear hS
 unfold ptr fnD at *
 go_enter Tryz.func183,Tryz.ntmps183
 go_wp2
 exact Sep.wNew (readS (d.base+c)) rfl S1 rfl (by simp) rfl fun W' h=>⟨rfl,h⟩
theorem dDone_calls {d:DicD} {tv nx:Value} (hS:Sep w0 X (cBlk p (dicO d tv nx)::Cs) w) (v c:Int) :
   Calls Tryz.prog 185 #[ptr p,.int .i64 v,.int .i64 c] w
     (fun e w'=>e=.returned (WantS.val ⟨6,0,v,c⟩)∧∃ g,Sep w0 X (cBlk p (dicO d tv (.func (.func 224) #[] #[ptr g]))::cBlk g (sO ⟨6,0,v,c⟩)::Cs) w'):=by
 have c9:=hS.cell 9
 have f9:=hS.froz 9
 simp only [dicA,gA,gZ,gS] at c9
 have hlt:=heap_lt hS.h0
 have HS:=kH (((hS.dset (d':=d) (tv':=tv) (nx':=.func (.func 224) #[] #[ptr (w.heap.size+1)]) 9 (.func (.func 224) #[] #[ptr (w.heap.size+1)]) (by simp [dicA])).alloc (sO ⟨6,0,v,c⟩)).new (sO ⟨6,0,v,c⟩))
 clear hS
 unfold ptr sO at *
 go_enter Tryz.func185,Tryz.ntmps185
 go_wp2
 refine bodyPost_ret (results_cell_row rfl _ _ _ _ _ _ _ rfl (kO (heap_new (by simp))) Tryz.underlying109 rfl infoWant) rfl ⟨rfl,w.heap.size+1,?_⟩
 have h:=HS.out.sw
 rw [show ((w.setCell ⟨p,9,none⟩ (.func (.func 224) #[] #[.pointer (some ⟨w.heap.size+1,0,none⟩)])).alloc (.cells #[.int .i64 6,.int .i64 0,.int .i64 v,.int .i64 c] 109 (0,0))).heap.size=w.heap.size+1 by simp] at h
 exact h
end
section
open Go.RowKit
variable {w0:World} {X:List Nat} {Cs:List Comp} {w:World} {p:Nat}
theorem dWrites1 {d:DicD} {tv nx:Value} {g:Nat} {c v:Int} (hS:Sep w0 X (cBlk p (dicO d tv nx)::cBlk g (.cells #[.int .i64 0,.int .i64 c,.int .i64 v,.int .i64 0] 109 (0,0))::Cs) w) (hb:0≤d.base∧d.base≤1024) (hc:0≤c∧c≤1000) :
   Calls Tryz.prog 240 #[ptr p,.slice (some ⟨g,0,none⟩) 1 1] w (fun e w'=>e=.returned (putS (d.base+c) v).val∧∃ a cap,Sep w0 X (cBlk p (dicO d (.slice a 0 cap) nx)::Cs) w'):=by
 have c0:=hS.cell 0
 have c8:=hS.cell 8
 have f8:=hS.froz 8
 have S1:=hS.sw
 have hd:=S1.ansBox
 simp only [dicA,gA,gZ,gS] at c0 c8
 obtain ⟨⟨d0,d1,d2,d3⟩,⟨g0,g1,g2,g3⟩⟩:=hd
 have hlt:=heap_lt hS.h0
 have hltg:=heap_lt S1.h0
 have hne:p≠g:=by
   have:=hS.apart
   simp only [feet,cBlk,List.flatMap_cons,List.singleton_append,List.nodup_cons,List.mem_append,List.mem_cons,not_or] at this
   exact this.1.1
 have HS:=kH hS
 clear hS S1
 unfold ptr at *
 go_enter Tryz.func240,Tryz.ntmps240
 go_wp2_with fail
 refine wp_loop_rounds 2 ?_
 rw [rounds_succ]
 go_wp2_with fail
 go_region
 go_wp2_with fail
 rw [rounds_succ]
 go_wp2_with fail
 have S3:=(((((HS.out.sw.set 0 (.int .i64 3)).set 1 (.int .i64 (c+d.base))).sw).dset (d':=d) (tv':=.slice (some ⟨g,0,none⟩) 0 0) (nx':=nx) 8 (.slice (some ⟨g,0,none⟩) 0 0) (by simp [dicA])).new (sO (putS (c+d.base) v))).drew
 exact Sep.wBox (putS (c+d.base) v) rfl S3 (by simp) rfl rfl fun h=>⟨by rw [Int.add_comm],some ⟨g,0,none⟩,0,h.sw.drop⟩
theorem Sep.eqO {A B:Array Value} {t:TypeId} {g:Nat} (h:Sep w0 X (cBlk g (.cells A t (0,0))::Cs) w) (e:A=B):Sep w0 X (cBlk g (.cells B t (0,0))::Cs) w:=e ▸ h
def row4 (k c1 v1 c2 v2 c3 v3 c4 v4:Int):Array Value:=#[.int .i64 k,.int .i64 c1,.int .i64 v1,.int .i64 0,.int .i64 k,.int .i64 c2,.int .i64 v2,.int .i64 0,.int .i64 k,.int .i64 c3,.int .i64 v3,.int .i64 0,.int .i64 k,.int .i64 c4,.int .i64 v4,.int .i64 0]
def row4O (k c1 v1 c2 v2 c3 v3 c4 v4:Int):Obj:=.cells (row4 k c1 v1 c2 v2 c3 v3 c4 v4) 109 (0,0)
theorem dWrites4 {d:DicD} {tv nx:Value} {g:Nat} {c1 c2 c3 c4 v1 v2 v3 v4:Int} (hS:Sep w0 X (cBlk p (dicO d tv nx)::cBlk g (row4O 0 c1 v1 c2 v2 c3 v3 c4 v4)::Cs) w) (hb:0≤d.base∧d.base≤1024)
   (h1:0≤c1∧c1≤1000) (h2:0≤c2∧c2≤1000) (h3:0≤c3∧c3≤1000) (h4:0≤c4∧c4≤1000) :
   Calls Tryz.prog 240 #[ptr p,.slice (some ⟨g,0,none⟩) 4 4] w (fun e w'=>e=.returned (putS (d.base+c1) v1).val ∧
     Sep w0 X (cBlk p (dicO d (.slice (some ⟨g,4,none⟩) 3 3) nx)::cBlk g (row4O 3 (c1+d.base) v1 (c2+d.base) v2 (c3+d.base) v3 (c4+d.base) v4)::Cs) w'):=by
 have c0:=hS.cell 0
 have c8:=hS.cell 8
 have f8:=hS.froz 8
 have S1:=hS.sw
 have d0:=S1.cell 0
 have d1:=S1.cell 1
 have d2:=S1.cell 2
 have d3:=S1.cell 3
 have d4:=S1.cell 4
 have d5:=S1.cell 5
 have d8:=S1.cell 8
 have d9:=S1.cell 9
 have d12:=S1.cell 12
 have d13:=S1.cell 13
 have g0:=S1.froz 0
 have g1:=S1.froz 1
 have g4:=S1.froz 4
 have g5:=S1.froz 5
 have g8:=S1.froz 8
 have g9:=S1.froz 9
 have g12:=S1.froz 12
 have g13:=S1.froz 13
 simp only [dicA,row4,gA,gZ,gS] at c0 c8 d0 d1 d2 d3 d4 d5 d8 d9 d12 d13
 have hlt:=heap_lt hS.h0
 have hltg:=heap_lt S1.h0
 have hne:p≠g:=by
   have:=hS.apart
   simp only [feet,cBlk,List.flatMap_cons,List.singleton_append,List.nodup_cons,List.mem_cons,not_or] at this
   exact this.1.1
 have HS:=kH hS
 clear hS S1
 unfold ptr at *
 go_enter Tryz.func240,Tryz.ntmps240
 go_wp2_with fail
 refine wp_loop_rounds 5 ?_
 rw [rounds_succ]
 go_wp2_with fail
 go_region
 go_wp2_with fail
 rw [rounds_succ]
 go_wp2_with fail
 go_region
 go_wp2_with fail
 rw [rounds_succ]
 go_wp2_with fail
 go_region
 go_wp2_with fail
 rw [rounds_succ]
 go_wp2_with fail
 go_region
 go_wp2_with fail
 rw [rounds_succ]
 go_wp2_with fail
 have S2:=(((((((HS.out.sw.set 0 (.int .i64 3)).set 1 (.int .i64 (c1+d.base))).set 4 (.int .i64 3)).set 5 (.int .i64 (c2+d.base))).set 8 (.int .i64 3)).set 9 (.int .i64 (c3+d.base))).set 12 (.int .i64 3)).set 13 (.int .i64 (c4+d.base))
 have S3:=(((((((S2.eqO (B:=row4 3 (c1+d.base) v1 (c2+d.base) v2 (c3+d.base) v3 (c4+d.base) v4) (by simp [row4])).sw).dset (d':=d) (tv':=.slice (some ⟨g,4,none⟩) 3 3) (nx':=nx) 8 (.slice (some ⟨g,4,none⟩) 3 3) (by simp [dicA])).new (sO (putS (c1+d.base) v1))).drew).drew).drew).drew
 refine Sep.wBox (putS (c1+d.base) v1) rfl S3 (by simp) rfl rfl fun h=>⟨by rw [Int.add_comm],h⟩
end
section
open Go.RowKit
variable {w0:World} {X:List Nat} {Cs:List Comp} {w:World} {p:Nat} {d:DicD} {tv nx:Value}
inductive DicP
 | begin
 | len1
 | state
 | key
 | val1
 | fine
 | counts
 | count1
 | lost1
 | done (x:WantS)
def DicP.fn:DicP→Nat
 | .begin=>153
 | .len1=>184
 | .state=>227
 | .key=>241
 | .val1=>247
 | .fine=>239
 | .counts=>248
 | .count1=>251
 | .lost1=>238
 | .done _=>0
structure DicM where
 d:DicD
 todo:List WantS
 ph:DicP
def endD (d:DicD) (v c:Int):WantS×DicM:=(⟨6,0,v,c⟩,⟨d,[],.done ⟨6,0,v,c⟩⟩)
def getD (d:DicD) (c:Int) (ph:DicP):WantS×DicM:=(readS (d.base+c),⟨d,[],ph⟩)
def lostD (d:DicD):WantS×DicM:=if d.call=3 then getD d 0 .lost1 else endD d 0 1
def looksD (d:DicD):WantS×DicM:=if d.seen=d.most then lostD d else getD d (1+3 * d.slot) .state
def goesD (d:DicD):WantS×DicM:=looksD { d with seen:=d.seen+1,slot:=(d.slot+1) % d.most }
def TodoIs (tv:Value) (l:List WantS) (As:List Comp):Prop :=
 (l=[]∧As=[]∧∃ a cap,tv=.slice a 0 cap)∨∃ g c1 v1 c2 v2 c3 v3 c4 v4,As=[cBlk g (row4O 3 c1 v1 c2 v2 c3 v3 c4 v4)] ∧
   ((l=[putS c2 v2,putS c3 v3,putS c4 v4]∧tv=.slice (some ⟨g,4,none⟩) 3 3)∨(l=[putS c3 v3,putS c4 v4]∧tv=.slice (some ⟨g,8,none⟩) 2 2)∨(l=[putS c4 v4]∧tv=.slice (some ⟨g,12,none⟩) 1 1))
def Tail (tv:Value):Prop:=∃ a cap,tv=.slice a 0 cap
theorem Tail.todo (h:Tail tv):TodoIs tv [] []:=.inl ⟨rfl,rfl,h⟩
def ThenIs (nx:Value) (ph:DicP) (Bs:List Comp):Prop :=
 (∃ x c,ph=.done x∧nx=.func (.func 224) #[] #[ptr c]∧Bs=[cBlk c (sO x)])∨((∀ x,ph≠.done x)∧nx=fnD ph.fn∧Bs=[])
def DicAt (w0:World) (X:List Nat) (Cs:List Comp) (p:Nat) (m:DicM) (w':World):Prop :=
 ∃ tv nx As Bs,TodoIs tv m.todo As∧ThenIs nx m.ph Bs∧Sep w0 X (cBlk p (dicO m.d tv nx)::(As++(Bs++Cs))) w'
def DicTo (w0:World) (X:List Nat) (Cs:List Comp) (p:Nat) (r:WantS×DicM) (e:Ending) (w':World):Prop:=e=.returned r.1.val∧DicAt w0 X Cs p r.2 w'
theorem DicAt.pull {m:DicM} {c:Comp} {w':World} (h:DicAt w0 X (c::Cs) p m w'):∃ tv nx As Bs,TodoIs tv m.todo As∧ThenIs nx m.ph Bs∧Sep w0 X (c::cBlk p (dicO m.d tv nx)::(As++(Bs++Cs))) w':=by
 obtain ⟨tv,nx,As,Bs,h1,h2,hS⟩:=h
 refine ⟨tv,nx,As,Bs,h1,h2,?_⟩
 have h3:Sep w0 X ((cBlk p (dicO m.d tv nx)::(As++Bs))++c::Cs) w':=by simpa using hS
 have h4:=h3.pull (cBlk p (dicO m.d tv nx)::(As++Bs))
 simpa using h4
theorem DicAt.box {m:DicM} {g:Nat} {a b c e:Value} {t:TypeId} {w':World} (h:DicAt w0 X (cBlk g (.cells #[a,b,c,e] t (0,0))::Cs) p m w') :
   (w'.cell? ⟨g,0,none⟩=some a∧w'.cell? ⟨g,1,none⟩=some b∧w'.cell? ⟨g,2,none⟩=some c∧w'.cell? ⟨g,3,none⟩=some e) ∧
   (w'.frozen? ⟨g,0,none⟩=false∧w'.frozen? ⟨g,1,none⟩=false∧w'.frozen? ⟨g,2,none⟩=false∧w'.frozen? ⟨g,3,none⟩=false):=by
 obtain ⟨_,_,_,_,_,_,hS⟩:=h.pull
 exact hS.ansBox
theorem DicTo.ret {a0 b0 c0 d0:Value} {f:Func} {W:World} {act:Act} {q:Tmp} {g:Nat} (r:WantS×DicM) (hres:f.results=#[.cell q 109])
   (h:DicAt w0 X (cBlk g (.cells #[a0,b0,c0,d0] 109 (0,0))::Cs) p r.2 W) (hg:act.tmps.getD q undef=.pointer (some ⟨g,0,none⟩)) (hd:act.defers=[]) :
   bodyPost Tryz.prog f (DicTo w0 X Cs p r) .ret act ((((W.setCell ⟨g,0,none⟩ (.int .i64 r.1.kind)).setCell ⟨g,1,none⟩ (.int .i64 r.1.cell)).setCell ⟨g,2,none⟩ (.int .i64 r.1.value)).setCell ⟨g,3,none⟩ (.int .i64 r.1.code)):=by
 obtain ⟨tv,nx,As,Bs,h1,h2,hS⟩:=h.pull
 exact Sep.wRet r.1 hres hS hg hd fun W' h3=>⟨rfl,tv,nx,As,Bs,h1,h2,h3⟩
theorem dEnd_calls (hS:Sep w0 X (cBlk p (dicO d tv nx)::Cs) w) (ht:Tail tv) (v c:Int):Calls Tryz.prog 185 #[ptr p,.int .i64 v,.int .i64 c] w (DicTo w0 X Cs p (endD d v c)) :=
 (dDone_calls hS v c).mono fun _ _ ⟨h1,g,h2⟩=>⟨h1,tv,_,[],_,ht.todo,.inl ⟨_,g,rfl,rfl,rfl⟩,h2⟩
theorem dGet_calls (hS:Sep w0 X (cBlk p (dicO d tv nx)::Cs) w) (hok:DicOk d) (ht:Tail tv) (c:Int) (hc:0≤c∧c≤1000) (ph:DicP) (hp:∀ x,ph≠.done x) :
   Calls Tryz.prog 183 #[ptr p,.int .i64 c,fnD ph.fn] w (DicTo w0 X Cs p (getD d c ph)) :=
 (dRead_calls hS hok.base c hc ph.fn).mono fun _ _ ⟨h1,h2⟩=>⟨h1,tv,_,[],[],ht.todo,.inr ⟨hp,rfl,rfl⟩,h2⟩
theorem dLost_calls (hS:Sep w0 X (cBlk p (dicO d tv nx)::Cs) w) (hok:DicOk d) (ht:Tail tv):Calls Tryz.prog 225 #[ptr p] w (DicTo w0 X Cs p (lostD d)):=by
 have c2:=hS.cell 2
 simp only [dicA,gA,gZ,gS] at c2
 have hlt:=heap_lt hS.h0
 have S1:=(hS.new s0).sw
 clear hS
 by_cases h3:d.call=3
 · have HC:=kH (dGet_calls S1 hok ht 0 (by omega) .lost1 (by simp))
   have e:lostD d=getD d 0 .lost1:=if_pos h3
   rw [e]
   rw [h3] at c2
   clear S1 h3 e
   unfold ptr fnD DicP.fn s0 at *
   simp only at HC
   go_enter Tryz.func225,Tryz.ntmps225
   go_wp2_with fail
   refine HC.out.mono ?_
   rintro e w1 ⟨rfl,hA⟩
   obtain ⟨⟨a0,a1,a2,a3⟩,⟨g0,g1,g2,g3⟩⟩:=hA.box
   have HA:=kH hA
   clear hA
   generalize getD d 0 .lost1=r at *
   unfold WantS.val
   go_wp2
   exact DicTo.ret r rfl HA.out rfl rfl
 · have HC:=kH (dEnd_calls S1 ht 0 1)
   have e:lostD d=endD d 0 1:=if_neg h3
   rw [e]
   have h3':(d.call != 3)=true:=by simpa using h3
   clear S1 h3 e
   unfold ptr s0 at *
   go_enter Tryz.func225,Tryz.ntmps225
   go_wp2_with fail
   refine HC.out.mono ?_
   rintro e w1 ⟨rfl,hA⟩
   obtain ⟨⟨a0,a1,a2,a3⟩,⟨g0,g1,g2,g3⟩⟩:=hA.box
   have HA:=kH hA
   clear hA
   generalize endD d 0 1=r at *
   unfold WantS.val
   go_wp2
   exact DicTo.ret r rfl HA.out rfl rfl
end
section
open Go.RowKit
variable {w0:World} {X:List Nat} {Cs:List Comp} {w:World} {p:Nat} {d:DicD} {tv nx:Value}
theorem dHead (hS:Sep w0 X (cBlk p (dicO d tv nx)::Cs) w):p < w.heap.size ∧
   (w.cell? ⟨p,0,none⟩=some (.int .i64 d.base)∧w.cell? ⟨p,1,none⟩=some (.int .i64 d.most)∧w.cell? ⟨p,2,none⟩=some (.int .i64 d.call)∧w.cell? ⟨p,3,none⟩=some (.int .i64 d.k)∧w.cell? ⟨p,4,none⟩=some (.int .i64 d.v)) ∧
   (w.cell? ⟨p,5,none⟩=some (.int .i64 d.slot)∧w.cell? ⟨p,6,none⟩=some (.int .i64 d.seen)∧w.cell? ⟨p,7,none⟩=some (.int .i64 d.free)∧w.cell? ⟨p,8,none⟩=some tv∧w.cell? ⟨p,9,none⟩=some nx) ∧
   (w.frozen? ⟨p,5,none⟩=false∧w.frozen? ⟨p,6,none⟩=false∧w.frozen? ⟨p,7,none⟩=false∧w.frozen? ⟨p,8,none⟩=false∧w.frozen? ⟨p,9,none⟩=false):=by
 have h:=fun j=>hS.cell j
 have f:=fun j=>hS.froz j
 refine ⟨heap_lt hS.h0,⟨?_,?_,?_,?_,?_⟩,⟨?_,?_,?_,?_,?_⟩,f 5,f 6,f 7,f 8,f 9⟩
 · exact h 0
 · exact h 1
 · exact h 2
 · exact h 3
 · exact h 4
 · exact h 5
 · exact h 6
 · exact h 7
 · exact h 8
 · exact h 9
theorem dLooks_calls (hS:Sep w0 X (cBlk p (dicO d tv nx)::Cs) w) (hok:DicOk d) (ht:Tail tv):Calls Tryz.prog 186 #[ptr p] w (DicTo w0 X Cs p (looksD d)):=by
 obtain ⟨hlt,⟨c0,c1,c2,c3,c4⟩,⟨c5,c6,c7,c8,c9⟩,⟨f5,f6,f7,f8,f9⟩⟩:=dHead hS
 have HD:=kH hok
 have HTL:=kH ht
 have S1:=fun n=>((hS.new s0).sw).drewN n
 have HAT:=kH (fun W=>dAt_calls d.slot (by have:=hok.slot;have:=hok.most;omega) W)
 by_cases h3:d.seen=d.most
 · have HC':=kH (fun n=>dLost_calls (S1 n) hok ht)
   have e:looksD d=lostD d:=if_pos h3
   rw [e]
   clear S1 e hS hok ht
   have HE:=kH h3
   rw [h3] at c6
   clear h3
   unfold ptr s0 at *
   go_enter Tryz.func186,Tryz.ntmps186
   go_wp2_with fail
   go_quiet (fail)
   go_wp2_with fail
   have HC:=kH (HC'.out nq)
   refine HC.out.mono ?_
   rintro e w1 ⟨rfl,hA⟩
   obtain ⟨⟨a0,a1,a2,a3⟩,⟨g0,g1,g2,g3⟩⟩:=hA.box
   have HA:=kH hA
   clear hA
   generalize lostD d=r at *
   unfold WantS.val
   go_wp2
   exact DicTo.ret r rfl HA.out rfl rfl
 · have hok':=hok.slot
   have hm':=hok.most
   have HC':=kH (fun n=>dGet_calls (S1 n) hok ht (1+3 * d.slot) (by omega) .state (by simp))
   have e:looksD d=getD d (1+3 * d.slot) .state:=if_neg h3
   rw [e]
   have h3':(d.seen == d.most)=false:=by simpa using h3
   clear S1 e hS hok ht h3
   unfold ptr s0 fnD DicP.fn at *
   simp only at HC'
   go_enter Tryz.func186,Tryz.ntmps186
   go_wp2_with fail
   go_quiet (fail)
   go_wp2_with (go_at_call 226;refine (HAT.out _).mono ?_;rintro e' w' ⟨rfl,rfl⟩)
   have HC:=kH (HC'.out nq)
   refine HC.out.mono ?_
   rintro e w1 ⟨rfl,hA⟩
   obtain ⟨⟨a0,a1,a2,a3⟩,⟨g0,g1,g2,g3⟩⟩:=hA.box
   have HA:=kH hA
   clear hA
   generalize getD d (1+3 * d.slot) .state=r at *
   unfold WantS.val
   go_wp2
   exact DicTo.ret r rfl HA.out rfl rfl
theorem dGoes_calls (hS:Sep w0 X (cBlk p (dicO d tv nx)::Cs) w) (hok:DicOk d) (ht:Tail tv) (hl:d.seen < d.most):Calls Tryz.prog 242 #[ptr p] w (DicTo w0 X Cs p (goesD d)):=by
 obtain ⟨hlt,⟨c0,c1,c2,c3,c4⟩,⟨c5,c6,c7,c8,c9⟩,⟨f5,f6,f7,f8,f9⟩⟩:=dHead hS
 have HD:=kH hok
 have HTL:=kH ht
 obtain ⟨⟨s0',s1'⟩,⟨n0,n1⟩⟩:=And.intro hok.slot hok.seen
 have hm:=hok.most
 have hok':DicOk { d with seen:=d.seen+1,slot:=(d.slot+1) % d.most } :=
   ⟨hok.base,hok.most,hok.k,hok.v,⟨Int.emod_nonneg _ (by omega),.inl (Int.emod_lt_of_pos _ (by omega))⟩,⟨by show 0≤d.seen+1;omega,by show d.seen+1≤d.most;omega⟩,hok.free⟩
 have S1:Sep w0 X (cBlk p (dicO { d with seen:=d.seen+1,slot:=(d.slot+1) % d.most } tv nx)::cBlk w.heap.size s0::Cs) ((((w.setCell ⟨p,6,none⟩ (.int .i64 (d.seen+1))).setCell ⟨p,5,none⟩ (.int .i64 ((d.slot+1) % d.most))).alloc s0).drew):=by
   have h:=(((hS.dset (d':={ d with seen:=d.seen+1 }) (tv':=tv) (nx':=nx) 6 (.int .i64 (d.seen+1)) (by simp [dicA])).dset (d':={ d with seen:=d.seen+1,slot:=(d.slot+1) % d.most }) (tv':=tv) (nx':=nx) 5 (.int .i64 ((d.slot+1) % d.most)) (by simp [dicA])).new s0).sw
   rw [show ((w.setCell ⟨p,6,none⟩ (.int .i64 (d.seen+1))).setCell ⟨p,5,none⟩ (.int .i64 ((d.slot+1) % d.most))).heap.size=w.heap.size by simp] at h
   exact h.drew
 have HC:=kH (dLooks_calls S1 hok' ht)
 have e1:wrap64 (d.seen+1)=d.seen+1:=by unfold wrap64;omega
 have e2:(d.slot+1).tmod d.most=(d.slot+1) % d.most:=Int.tmod_eq_emod_of_nonneg (by omega)
 have e3:wrap64 ((d.slot+1) % d.most)=(d.slot+1) % d.most:=by
   have h1:=Int.emod_nonneg (d.slot+1) (show d.most≠0 by omega)
   have h2:=Int.emod_lt_of_pos (d.slot+1) (show 0 < d.most by omega)
   unfold wrap64
   omega
 have e4:(d.most == 0)=false:=by simp;omega
 have HE:=kH (And.intro e1 (And.intro e2 (And.intro e3 e4)))
 unfold goesD
 clear S1 hS hok ht e1 e2 e3
 unfold ptr s0 at *
 go_enter Tryz.func242,Tryz.ntmps242
 go_wp2_with fail
 go_region
 go_wp2_with fail
 refine HC.out.mono ?_
 rintro e w1 ⟨rfl,hA⟩
 obtain ⟨⟨a0,a1,a2,a3⟩,⟨g0,g1,g2,g3⟩⟩:=hA.box
 have HA:=kH hA
 clear hA
 generalize looksD { d with seen:=d.seen+1,slot:=(d.slot+1) % d.most }=r at *
 unfold WantS.val
 go_wp2
 exact DicTo.ret r rfl HA.out rfl rfl
def freeD (d:DicD):DicD:=if d.free < 0 then { d with free:=d.slot } else d
def stateD (d:DicD) (v:Int):WantS×DicM:=if v=1 then getD d (1+3 * d.slot+1) .key else if v=0 then lostD (freeD d) else goesD (freeD d)
theorem free_ok (h:DicOk d) (hl:d.seen < d.most):DicOk (freeD d):=by
 unfold freeD
 split
 · have:=h.slot
   have:=h.seen
   exact ⟨h.base,h.most,h.k,h.v,h.slot,h.seen,.inr ⟨h.slot.1,by show d.slot < d.most;omega⟩⟩
 · exact h
theorem dState_calls (hS:Sep w0 X (cBlk p (dicO d tv nx)::Cs) w) (hok:DicOk d) (ht:Tail tv) (hl:d.seen < d.most) (v:Int):Calls Tryz.prog 227 #[ptr p,.int .i64 v] w (DicTo w0 X Cs p (stateD d v)):=by
 obtain ⟨hlt,⟨c0,c1,c2,c3,c4⟩,⟨c5,c6,c7,c8,c9⟩,⟨f5,f6,f7,f8,f9⟩⟩:=dHead hS
 have HD:=kH hok
 have HTL:=kH ht
 have HAT:=kH (fun W=>dAt_calls d.slot (by have:=hok.slot;have:=hok.most;omega) W)
 have hok':=hok.slot
 have hm':=hok.most
 have S1:=(hS.new s0).sw
 by_cases h1:v=1
 · subst h1
   have e:stateD d 1=getD d (1+3 * d.slot+1) .key:=rfl
   rw [e]
   clear e
   have HC:=kH (dGet_calls S1 hok ht (1+3 * d.slot+1) (by omega) .key (by simp))
   clear S1 hS hok ht
   unfold ptr s0 fnD DicP.fn at *
   simp only at HC
   go_enter Tryz.func227,Tryz.ntmps227
   go_wp2_with (go_at_call 226;refine (HAT.out _).mono ?_;rintro e' w' ⟨rfl,rfl⟩)
   refine HC.out.mono ?_
   rintro e w1 ⟨rfl,hA⟩
   obtain ⟨⟨a0,a1,a2,a3⟩,⟨g0,g1,g2,g3⟩⟩:=hA.box
   have HA:=kH hA
   clear hA
   generalize getD d (1+3 * d.slot+1) .key=r at *
   unfold WantS.val
   go_wp2
   exact DicTo.ret r rfl HA.out rfl rfl
 · by_cases hf:d.free < 0
   · by_cases h0:v=0
     · subst h0
       have e:stateD d 0=lostD { d with free:=d.slot }:=by simp [stateD,freeD,hf]
       rw [e]
       clear e h1
       have hok2:DicOk { d with free:=d.slot }:=by have h:=free_ok hok hl;rwa [show freeD d = { d with free:=d.slot } from if_pos hf] at h
       have S2:Sep w0 X (cBlk p (dicO { d with free:=d.slot } tv nx)::cBlk w.heap.size s0::Cs) ((w.setCell ⟨p,7,none⟩ (.int .i64 d.slot)).alloc s0):=by
         have h:=((hS.dset (d':={ d with free:=d.slot }) (tv':=tv) (nx':=nx) 7 (.int .i64 d.slot) (by simp [dicA])).new s0).sw
         rw [show (w.setCell ⟨p,7,none⟩ (.int .i64 d.slot)).heap.size=w.heap.size by simp] at h
         exact h
       have HC:=kH (dLost_calls S2 hok2 ht)
       clear S1 hS hok ht hl S2 hok2
       unfold ptr s0 at *
       go_enter Tryz.func227,Tryz.ntmps227
       go_wp2_with fail
       refine HC.out.mono ?_
       rintro e w1 ⟨rfl,hA⟩
       obtain ⟨⟨a0,a1,a2,a3⟩,⟨g0,g1,g2,g3⟩⟩:=hA.box
       have HA:=kH hA
       clear hA
       generalize lostD ({ d with free:=d.slot })=r at *
       unfold WantS.val
       go_wp2
       exact DicTo.ret r rfl HA.out rfl rfl
     · have e:stateD d v=goesD { d with free:=d.slot }:=by simp [stateD,freeD,hf,h0,h1]
       rw [e]
       have h1':(v == 1)=false:=by simpa using h1
       have h0':(v == 0)=false:=by simpa using h0
       clear e
       have hok2:DicOk { d with free:=d.slot }:=by have h:=free_ok hok hl;rwa [show freeD d = { d with free:=d.slot } from if_pos hf] at h
       have S2:Sep w0 X (cBlk p (dicO { d with free:=d.slot } tv nx)::cBlk w.heap.size s0::Cs) ((w.setCell ⟨p,7,none⟩ (.int .i64 d.slot)).alloc s0):=by
         have h:=((hS.dset (d':={ d with free:=d.slot }) (tv':=tv) (nx':=nx) 7 (.int .i64 d.slot) (by simp [dicA])).new s0).sw
         rw [show (w.setCell ⟨p,7,none⟩ (.int .i64 d.slot)).heap.size=w.heap.size by simp] at h
         exact h
       have HC:=kH (dGoes_calls S2 hok2 ht hl)
       clear S1 hS hok ht hl S2 hok2
       unfold ptr s0 at *
       go_enter Tryz.func227,Tryz.ntmps227
       go_wp2_with fail
       refine HC.out.mono ?_
       rintro e w1 ⟨rfl,hA⟩
       obtain ⟨⟨a0,a1,a2,a3⟩,⟨g0,g1,g2,g3⟩⟩:=hA.box
       have HA:=kH hA
       clear hA
       generalize goesD ({ d with free:=d.slot })=r at *
       unfold WantS.val
       go_wp2
       exact DicTo.ret r rfl HA.out rfl rfl
   · by_cases h0:v=0
     · subst h0
       have e:stateD d 0=lostD d:=by simp [stateD,freeD,hf]
       rw [e]
       clear e h1
       have HC:=kH (dLost_calls S1 hok ht)
       clear S1 hS hok ht hl
       unfold ptr s0 at *
       go_enter Tryz.func227,Tryz.ntmps227
       go_wp2_with fail
       refine HC.out.mono ?_
       rintro e w1 ⟨rfl,hA⟩
       obtain ⟨⟨a0,a1,a2,a3⟩,⟨g0,g1,g2,g3⟩⟩:=hA.box
       have HA:=kH hA
       clear hA
       generalize lostD (d)=r at *
       unfold WantS.val
       go_wp2
       exact DicTo.ret r rfl HA.out rfl rfl
     · have e:stateD d v=goesD d:=by simp [stateD,freeD,hf,h0,h1]
       rw [e]
       have h1':(v == 1)=false:=by simpa using h1
       have h0':(v == 0)=false:=by simpa using h0
       clear e
       have HC:=kH (dGoes_calls S1 hok ht hl)
       clear S1 hS hok ht hl
       unfold ptr s0 at *
       go_enter Tryz.func227,Tryz.ntmps227
       go_wp2_with fail
       refine HC.out.mono ?_
       rintro e w1 ⟨rfl,hA⟩
       obtain ⟨⟨a0,a1,a2,a3⟩,⟨g0,g1,g2,g3⟩⟩:=hA.box
       have HA:=kH hA
       clear hA
       generalize goesD (d)=r at *
       unfold WantS.val
       go_wp2
       exact DicTo.ret r rfl HA.out rfl rfl
end
end Go.Proofs.YtgfogfciobmmpaaGreatDoor
