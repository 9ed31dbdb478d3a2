/- A part of the proof of the law TopTells: Fet Com Com2 Com3. -/
import Derived.Test.YtgfogfciobmmpaaGreatDoorPAn
import Derived.Test.YtgfogfciobmmpaaGreatDoorPAo
import Derived.Laws.EntriesVeiled
set_option linter.unusedSimpArgs false
set_option linter.unusedVariables false
set_option maxRecDepth 100000
set_option maxHeartbeats 8000000
namespace Go.Proofs.YtgfogfciobmmpaaGreatDoor
section
open Go.RowKit
def chkO (c:ChkD):Obj:=.cells (chkA c) 254 (0,0)
def fetA (k:Nat) (f:FetD):Array Value:=#[ptr k,.int .i64 f.chk.size,.int .i64 f.cell,.int .u64 (f.chk.reads.getD 0 0),.int .u64 (f.chk.reads.getD 1 0),.int .u64 (f.chk.reads.getD 2 0),.int .u64 (f.chk.reads.getD 3 0),.int .u64 (f.chk.reads.getD 4 0),.int .u64 (f.chk.reads.getD 5 0),.int .u64 (f.chk.reads.getD 6 0),.int .u64 (f.chk.reads.getD 7 0),.bool f.read,.int .i64 f.value]
def fetO (k:Nat) (f:FetD):Obj:=.cells (fetA k f) 209 (0,0)
variable {w0:World} {X:List Nat} {Cs:List Comp}
theorem agg8 {s:List Int} (h:s.length=8):∃ a b c d e f g i:Int,s=[a,b,c,d,e,f,g,i]∧sigV s=.agg #[.int .u64 a,.int .u64 b,.int .u64 c,.int .u64 d,.int .u64 e,.int .u64 f,.int .u64 g,.int .u64 i]:=by
 obtain ⟨a,b,c,d,e,f,g,i,rfl⟩:=eight h
 exact ⟨a,b,c,d,e,f,g,i,rfl,rfl⟩
theorem box8 {w:World} {g:Nat} {a b c d e f i j:Value} {t:TypeId} (h:w.heap[g]?=some (.cells #[a,b,c,d,e,f,i,j] t (0,0))) :
   w.cell? ⟨g,0,none⟩=some a∧w.cell? ⟨g,1,none⟩=some b∧w.cell? ⟨g,2,none⟩=some c∧w.cell? ⟨g,3,none⟩=some d∧w.cell? ⟨g,4,none⟩=some e∧w.cell? ⟨g,5,none⟩=some f∧w.cell? ⟨g,6,none⟩=some i∧w.cell? ⟨g,7,none⟩=some j:=by
 have hc:=fun j=>cell_of_row w g j _ _ _ h
 exact ⟨by simpa using hc 0,by simpa using hc 1,by simpa using hc 2,by simpa using hc 3,by simpa using hc 4,by simpa using hc 5,by simpa using hc 6,by simpa using hc 7⟩
theorem New_fet {w:World} (hS:Sep w0 X Cs w) (size start:Int) (reads:List Int) (cell:Int) (h0:1≤size∧size≤16) (h1:0≤start) (hr:SigOk reads) (hc:0≤cell∧cell < 1024) :
   Calls Tryz.prog 87 #[.int .i64 size,.int .i64 start,sigV reads,.int .i64 cell] w (fun e w'=>∃ x k,e=.returned (.tuple #[ptr x,.int .i64 0]) ∧
     Sep w0 X (cBlk x (fetO k ⟨newChk size start (withC reads cell) true,cell,false,0⟩)::cBlk k (chkO (newChk size start (withC reads cell) true))::Cs) w'):=by
 have HW:=kH (With_calls reads cell hr)
 obtain ⟨r0,r1,r2,r3,r4,r5,r6,r7,hq,hv⟩:=agg8 hr.1
 have hall:=withC_ok hr cell
 have HN:=kH (fun W=>New_chk W size start (withC reads cell) true h0 h1 hall.1)
 obtain ⟨a0,a1,a2,a3,a4,a5,a6,a7,ha,hva⟩:=agg8 hall.1
 have HS:=kH hS
 rw [hva] at HW HN
 rw [hv] at HW ⊢
 have HA:=kH ha
 obtain ⟨hc0,hc1⟩:=hc
 obtain ⟨h0a,h0b⟩:=h0
 clear hS hq hv ha hva hall hr
 go_enter Tryz.func87,Tryz.ntmps87
 go_wp2_with fail
 refine (HW.out _).mono ?_
 rintro e w1 ⟨rfl,hb1⟩
 have HS1:=kH ((HS.out.alloc _).below hb1)
 clear hb1
 go_wp2_with fail
 have hbx:=heap_new_at (w:=w1) (o:=.cells #[.int .u64 a0,.int .u64 a1,.int .u64 a2,.int .u64 a3,.int .u64 a4,.int .u64 a5,.int .u64 a6,.int .u64 a7] 42 (0,0)) rfl
 refine (HN.out _).mono ?_
 rintro e w2 ⟨k,hk,rfl,hck,hb2⟩
 unfold ptr
 have hbx2:=(hb2.block w1.heap.size (by simp)).trans hbx
 obtain ⟨b0,b1,b2,b3,b4,b5,b6,b7⟩:=box8 hbx2
 have HBX:=kH hbx2
 have HS2:=kH ((HS1.out.alloc _).got hb2 hk hck)
 clear hbx hbx2 hb2 hck
 clear hk
 go_wp2
 go_ret2
 refine ⟨_,k,rfl,?_⟩
 have h9:=HS2.out.new (fetO k ⟨newChk size start (withC reads cell) true,cell,false,0⟩)
 have he:fetO k ⟨newChk size start (withC reads cell) true,cell,false,0⟩=.cells #[ptr k,.int .i64 size,.int .i64 cell,.int .u64 a0,.int .u64 a1,.int .u64 a2,.int .u64 a3,.int .u64 a4,.int .u64 a5,.int .u64 a6,.int .u64 a7,.bool false,.int .i64 0] 209 (0,0):=by
   have:=HA.out
   unfold fetO fetA newChk
   simp only [this]
   rfl
 rw [he] at h9 ⊢
 exact h9
variable {w:World} {x k p L:Nat} {F:List Nat} {m:MemD} {f:FetD}
theorem Start_fet (hS:Sep w0 X (cBlk x (fetO k f)::cBlk k (chkO f.chk)::Cs) w) (h4:f.chk.state=4) :
   Calls Tryz.prog 94 #[ptr x] w (fun e w'=>e=.returned (.tuple #[.int .i64 f.chk.start,.int .i64 f.chk.seen,.bool true])∧Sep w0 X (cBlk x (fetO k f)::cBlk k (chkO f.chk)::Cs) w'):=by
 have k0:=hS.cell 0
 simp only [fetA,gA,gZ,ptr] at k0
 have HS:=kH hS
 have HC:=kH (start_chk w k f.chk hS.h1 h4)
 clear hS h4
 unfold ptr at *
 go_enter Tryz.func94,Tryz.ntmps94
 go_wp2_with fail
 refine HC.out.mono ?_
 rintro e w1 ⟨rfl,hb⟩
 have HS1:=kH (HS.out.below hb)
 clear hb k0
 go_wp2
 go_ret3
 exact ⟨rfl,HS1.out⟩
theorem Reads_fet (hS:Sep w0 X (cBlk x (fetO k f)::Cs) w) (hr:f.chk.reads.length=8) :
   Calls Tryz.prog 88 #[ptr x] w (fun e w'=>e=.returned (sigV f.chk.reads)∧Sep w0 X (cBlk x (fetO k f)::Cs) w'):=by
 have hk:=fun j=>hS.cell j
 obtain ⟨a0,a1,a2,a3,a4,a5,a6,a7,ha,hva⟩:=agg8 hr
 rw [hva]
 simp only [fetA,ha] at hk
 have k3:=hk 3
 have k4:=hk 4
 have k5:=hk 5
 have k6:=hk 6
 have k7:=hk 7
 have k8:=hk 8
 have k9:=hk 9
 have k10:=hk 10
 simp only [gA,gZ,gS,List.getD_cons_zero,List.getD_cons_succ] at k3 k4 k5 k6 k7 k8 k9 k10
 have HS:=kH hS
 have hlt:=heap_lt hS.h0
 clear hS hk ha hva hr
 unfold ptr at *
 go_enter Tryz.func88,Tryz.ntmps88
 go_wp2
 refine bodyPost_ret (results_cell_row rfl _ _ _ _ _ _ _ rfl (heap_new_at (w:=w) (o:=.cells #[.int .u64 a0,.int .u64 a1,.int .u64 a2,.int .u64 a3,.int .u64 a4,.int .u64 a5,.int .u64 a6,.int .u64 a7] 42 (0,0)) rfl) Tryz.underlying42 rfl infoSig) rfl ⟨rfl,?_⟩
 exact HS.out.alloc _
theorem chk_size (m:MemD) (c:ChkD):(chkStep m c).2.size=c.size:=by
 unfold chkStep
 repeat' split
 all_goals rfl
theorem fetO_chk {k:Nat} {c c':ChkD} (hs:c'.size=c.size) (hr:c'.reads=c.reads) (cell:Int) (r:Bool) (v:Int):fetO k ⟨c',cell,r,v⟩=fetO k ⟨c,cell,r,v⟩:=by
 unfold fetO fetA
 simp only [hs,hr]
theorem Step_fet (hS:Sep w0 X (cBlk x (fetO k f)::cBlk k (chkO f.chk)::cMem p m L F::Cs) w) (th:Int) (hok:FetOk f m m.ring) (hL:L≤1073741824) :
   Calls Tryz.prog 271 #[ptr x,ptr p,.int .i64 th] w (fun e w'=>e=.returned (fetStep m f).1.val∧∃ F',Sep w0 X (cBlk x (fetO k (fetStep m f).2)::cBlk k (chkO (fetStep m f).2.chk)::cMem p m (L+1) F'::Cs) w'):=by
 obtain ⟨chk,cell,read,value⟩:=f
 obtain ⟨h1,h2,h3,h4⟩:=hok
 simp only at h1 h2 h3 h4
 obtain ⟨h2a,h2b⟩:=h2
 have hsz:=h1.size
 have HS0:=kH (hS.new ans0)
 have HC:=kH h1
 cases read with
 | false =>
   have hstep:fetStep m ⟨chk,cell,false,value⟩=(moved,⟨chk,cell,true,m.cells.getD cell.toNat 0⟩):=rfl
   generalize fetStep m ⟨chk,cell,false,value⟩=R at hstep ⊢
   generalize hcv:m.cells.getD cell.toNat 0=cv at hstep
   have HSTEP:=kH hstep
   have HL:Hid (∀ {W:World} {F':List Nat} {C':List Comp},Sep w0 X (cMem p m L F'::C') W→Calls Tryz.prog 215 #[ptr p,.int .i64 th,addrV 4 cell 0] W (fun e W'=>e=.returned (.tuple #[.int .i64 cv,.int .i64 0])∧∃ F',Sep w0 X (cMem p m (L+1) F'::C') W')):=fun {W F' C'} S=>by rw [← hcv];exact S.loadCell th cell ⟨h2a,h2b⟩ hL
   clear hcv
   clear hstep hS h1 h4
   unfold ptr
   go_enter Tryz.func271,Tryz.ntmps271
   go_wp2_with fail
   refine (HS0.out.f3.sizes).mono ?_
   rintro e w1 ⟨rfl,S1⟩
   have S1:=S1.sw.sw
   have c1:=S1.f2.cell 1
   have c2:=S1.f2.cell 2
   have c11:=S1.f2.cell 11
   simp only [fetA,gA,gZ,gS,hsz] at c1 c2 c11
   have HS1:=kH S1
   clear S1 hsz
   go_wp2_with fail
   refine (HL.out HS1.out).mono ?_
   rintro e w2 ⟨rfl,F2,S2⟩
   have S3:=S2.f2
   have f11:=S3.froz 11
   have f12:=S3.froz 12
   have d12:=S3.cell 12
   have d11:=S3.cell 11
   simp only [fetA,gA,gZ,gS] at d11 d12
   have S4:=(((S3.set 12 (.int .i64 cv)).set 11 (.bool true))).f2
   have HS4:=kH S4
   obtain ⟨⟨a0,a1,a2,a3⟩,⟨g0,g1,g2,g3⟩⟩:=S2.sw.ansBox
   have hxg:=S3.s23.ne01
   clear S2 S3 S4 c1 c2 c11
   go_wp2
   refine HS4.out.ret moved rfl rfl rfl (fun W' S=>?_)
   have hR:=HSTEP.out
   subst hR
   exact ⟨rfl,F2,S.s23⟩
 | true =>
   have hstep:fetStep m ⟨chk,cell,true,value⟩=(if (chkStep m chk).1.kind=3 then withVal (chkStep m chk).1 value else (chkStep m chk).1,⟨(chkStep m chk).2,cell,true,value⟩):=rfl
   generalize fetStep m ⟨chk,cell,true,value⟩=R at hstep ⊢
   have HK:Hid (∀ W,RepM W p m L F→k ∉ F→W.heap[k]?=some (chkO chk)→Calls Tryz.prog 273 #[ptr k,ptr p,.int .i64 th] W (StepOf k p L F (fun w'=>ChkAt w' k (chkStep m chk).2) (chkStep m chk).1 m W)):=fun W hr hx hc=>Step_chk W k p th chk m L F hc hr hx h1 hL
   have hsz2:=chk_size m chk
   have hrd2:=(chk_keep m chk).2.1
   generalize chkStep m chk=RC at hstep HK hsz2 hrd2 ⊢
   obtain ⟨⟨ak,ae,av,aa⟩,chk'⟩:=RC
   have HO:=kH (fetO_chk (k:=k) hsz2 hrd2 cell true value)
   clear hsz2 hrd2
   have HSTEP:=kH hstep
   clear hstep hS h1 h4
   unfold ptr
   go_enter Tryz.func271,Tryz.ntmps271
   go_wp2_with fail
   refine (HS0.out.f3.sizes).mono ?_
   rintro e w1 ⟨rfl,S1⟩
   have c0:=S1.f2.cell 0
   have c1:=S1.f2.cell 1
   have c2:=S1.f2.cell 2
   have c11:=S1.f2.cell 11
   simp only [fetA,gA,gZ,gS,hsz,ptr] at c0 c1 c2 c11
   have HS1:=kH (S1.f3)
   clear S1 hsz
   go_wp2_with fail
   refine (Sep.step (r:=⟨ak,ae,av,aa⟩) (o':=chkO chk') HS1.out (fun hr hx=>HK.out _ hr hx HS1.out.h0) (fun W' h=>h)).mono ?_
   rintro e w2 ⟨rfl,F2,S2⟩
   rw [ansVal]
   have HS2:=kH S2
   obtain ⟨⟨a0,a1,a2,a3⟩,⟨g0,g1,g2,g3⟩⟩:=S2.f2.ansBox
   have d12:=S2.f3.cell 12
   simp only [fetA,gA,gZ,gS] at d12
   have hgl:=heap_lt S2.f2.h0
   have hxl:=heap_lt S2.f3.h0
   clear S2 c0 c1 c2 c11
   by_cases hk3:ak=3
   · subst hk3
     go_wp2
     refine HS2.out.f2.retA ⟨3,ae,value,aa⟩ rfl rfl rfl _ (fun W' S=>?_)
     have hR:=HSTEP.out
     rw [if_pos trivial] at hR
     subst hR
     exact ⟨rfl,F2,by show Sep w0 X (cBlk x (fetO k ⟨chk',cell,true,value⟩)::_) _;rw [HO.out];exact S.f2⟩
   · have hk3':(ak == 3)=false:=by simpa using hk3
     have HK3:=kH hk3
     clear hk3
     go_wp2
     refine HS2.out.f2.retA ⟨ak,ae,av,aa⟩ rfl rfl rfl _ (fun W' S=>?_)
     have hR:=HSTEP.out
     rw [if_neg HK3.out] at hR
     subst hR
     exact ⟨rfl,F2,by show Sep w0 X (cBlk x (fetO k ⟨chk',cell,true,value⟩)::_) _;rw [HO.out];exact S.f2⟩
end
section
open Go.RowKit
def mval (f:Nat) (x:Nat):Value:=.func (.func f) #[ptr x] #[]
def looksV (x:Nat) (multi:Bool):Value:=if multi=true then mval 115 x else mval 113 x
def neededV (x:Nat) (multi:Bool):Value:=if multi=true then mval 116 x else mval 114 x
def comA (x k:Nat) (c:ComD):Array Value:=#[.int .i64 0,.int .i64 c.ring,.int .i64 0,.int .i64 c.stamps,.bool false,.int .i64 0,.slice none 0 0,.int .i64 c.start,.int .i64 c.seen,
 .int .u64 (c.reads.getD 0 0),.int .u64 (c.reads.getD 1 0),.int .u64 (c.reads.getD 2 0),.int .u64 (c.reads.getD 3 0),.int .u64 (c.reads.getD 4 0),.int .u64 (c.reads.getD 5 0),.int .u64 (c.reads.getD 6 0),.int .u64 (c.reads.getD 7 0),
 ptr k,.int .i64 c.state,.int .i64 c.stamp,looksV x c.multi,neededV x c.multi]
def comO (x k:Nat) (c:ComD):Obj:=.cells (comA x k c) 213 (0,0)
variable {w0:World} {X:List Nat} {Cs:List Comp} {w:World} {x k p L:Nat} {F:List Nat} {m:MemD} {c:ComD}
theorem head_com (hS:Sep w0 X (cBlk x (comO x k c)::cMem p m L F::Cs) w) (th s:Int) (hr:c.ring=m.ring) (hr1:1≤m.ring∧m.ring≤16) (hL:L≤1073741824) :
   Calls Tryz.prog 173 #[ptr x,ptr p,.int .i64 th,.int .i64 s] w (fun e w'=>e=.returned (.int .i64 (m.head s))∧∃ F',Sep w0 X (cBlk x (comO x k c)::cMem p m (L+1) F'::Cs) w'):=by
 have k1:=hS.cell 1
 simp only [comA,gA,gZ,gS,hr] at k1
 have HS:=kH hS
 have HSL:=kH (fun W=>Slot_calls s m.ring hr1.1 hr1.2 W)
 clear hS hr hr1
 unfold ptr
 go_enter Tryz.func173,Tryz.ntmps173
 go_wp2_with fail
 refine (HSL.out _).mono ?_
 rintro e w1 ⟨rfl,rfl⟩
 go_wp2_with fail
 refine (HS.out.sw.loadHead th s hL).mono ?_
 rintro e w2 ⟨rfl,F2,S2⟩
 have HS2:=kH S2.sw
 clear S2 k1
 go_wp2
 go_ret
 exact ⟨rfl,F2,HS2.out⟩
theorem all_com (hS:Sep w0 X (cBlk x (comO x k c)::cMem p m L F::Cs) w) (th:Int) (hr:c.ring=m.ring) (hr1:1≤m.ring∧m.ring≤16) (hL:L≤1073741824) :
   Calls Tryz.prog 113 #[ptr x,ptr p,.int .i64 th] w (fun e w'=>e=.returned (.bool (overH (m.head c.seen) c.seen))∧∃ F',Sep w0 X (cBlk x (comO x k c)::cMem p m (L+1) F'::Cs) w'):=by
 have k8:=hS.cell 8
 simp only [comA,gA,gZ,gS] at k8
 have HH:=kH (fun q=>head_com (hS.drewN q) th c.seen hr hr1 hL)
 have HO:=kH (fun W=>Over_calls (m.head c.seen) c.seen W)
 clear hS hr hr1
 unfold ptr
 go_enter Tryz.func113,Tryz.ntmps113
 go_wp2_with fail
 go_region_held3 (fun w'=>w'.cell? ⟨x,8,none⟩=some (.int .i64 c.seen)) (go_keep) (first | (go_at_call 172;refine (HO.out _).mono ?_;rintro e w' ⟨rfl,rfl⟩) | (go_at_call 173;refine (HH.out _).mono ?_;rintro e2 w2 ⟨rfl,F2,S2⟩;have l8:=S2.cell 8;simp only [comA,gA,gZ,gS] at l8;have HS2:=kH S2;clear S2))
 go_wp2
 go_ret
 exact ⟨rfl,F2,HS2.out⟩
theorem slot_com (hS:Sep w0 X (cBlk x (comO x k c)::cMem p m L F::Cs) w) (th:Int) (hr:c.ring=m.ring) (hr1:1≤m.ring∧m.ring≤16) (hsn:0≤c.seen∧c.seen≤1099511627776) (hL:L≤1073741824) :
   Calls Tryz.prog 115 #[ptr x,ptr p,.int .i64 th] w (fun e w'=>e=.returned (.bool (freeH (m.head (c.seen+1)) (c.seen+1) m.ring))∧∃ F',Sep w0 X (cBlk x (comO x k c)::cMem p m (L+1) F'::Cs) w'):=by
 have k8:=hS.cell 8
 have k1:=hS.cell 1
 simp only [comA,gA,gZ,gS,hr] at k8 k1
 have HH:=kH (fun q=>head_com (hS.drewN q) th (c.seen+1) hr hr1 hL)
 have HO:=kH (fun W=>Free_calls (m.head (c.seen+1)) (c.seen+1) m.ring hr1.1 hr1.2 (by omega) W)
 have hw1:IntKind.i64.wrap (c.seen+1)=c.seen+1:=IntWalk.i64_in _ (by omega)
 have HR:=kH hr
 clear hS hr hr1 hsn
 unfold ptr
 go_enter Tryz.func115,Tryz.ntmps115
 go_wp2_with fail
 go_region_held3 (fun w'=>w'.cell? ⟨x,8,none⟩=some (.int .i64 c.seen)∧w'.cell? ⟨x,1,none⟩=some (.int .i64 m.ring)) (go_keep) (first | (go_at_call 174;refine (HO.out _).mono ?_;rintro e w' ⟨rfl,rfl⟩) | (go_at_call 173;refine (HH.out _).mono ?_;rintro e2 w2 ⟨rfl,F2,S2⟩;have l8:=S2.cell 8;have l1:=S2.cell 1;simp only [comA,gA,gZ,gS,HR.out] at l8 l1;have HS2:=kH S2;clear S2))
 go_wp2
 go_ret
 exact ⟨rfl,F2,HS2.out⟩
theorem some_com (hS:Sep w0 X (cBlk x (comO x k c)::Cs) w) :
   Calls Tryz.prog 114 #[ptr x] w (fun e w'=>e=.returned (.bool (decide (1≤c.seen)))∧Sep w0 X (cBlk x (comO x k c)::Cs) w'):=by
 have k8:=hS.cell 8
 simp only [comA,gA,gZ,gS] at k8
 have HS:=kH hS
 clear hS
 unfold ptr
 go_enter Tryz.func114,Tryz.ntmps114
 go_wp2
 go_ret
 exact ⟨by simp,HS.out⟩
theorem always_com:Calls Tryz.prog 116 #[ptr x] w (fun e w'=>e=.returned (.bool true)∧w=w'):=by
 unfold ptr
 go_enter Tryz.func116,Tryz.ntmps116
 go_wp2
 go_ret
 exact ⟨rfl,rfl⟩
theorem moved_com (hS:Sep w0 X (cBlk x (comO x k c)::Cs) w) (s:Int) :
   Calls Tryz.prog 281 #[ptr x,.int .i64 s] w (fun e w'=>e=.returned (.agg #[.int .i64 2,.int .i64 0,.int .i64 0,.bool true])∧Sep w0 X (cBlk x (comO x k { c with state:=s })::Cs) w'):=by
 have k18:=hS.cell 18
 have f18:=hS.froz 18
 simp only [comA,gA,gZ,gS] at k18
 have hlt:=heap_lt hS.h0
 have HS:=kH hS
 clear hS
 unfold ptr
 go_enter Tryz.func281,Tryz.ntmps281
 go_wp2
 refine bodyPost_ret (results_cell_row rfl _ _ _ _ _ _ _ rfl (heap_new_at (by simp)) Tryz.underlying35 rfl infoAns) rfl ⟨rfl,?_⟩
 exact (HS.out.set 18 (.int .i64 s)).alloc _
end
section
open Go.RowKit
variable {w0:World} {X:List Nat} {Cs:List Comp} {w:World} {x k p L:Nat} {F:List Nat} {m:MemD} {c:ComD}
def cfgV (raw ring writes stamps:Int) (multi:Bool) (tries:Int) (rv:Value):Value:=.agg #[.int .i64 raw,.int .i64 ring,.int .i64 writes,.int .i64 stamps,.bool multi,.int .i64 tries,rv]
theorem New_com (hS:Sep w0 X Cs w) (raw ring writes stamps:Int) (multi:Bool) (tries:Int) (ra:Option Addr) (rn rc:Nat) (start:Int) (reads:List Int) (h0:1≤ring∧ring≤16) (h1:0≤start) (hr:SigOk reads) (hs:1≤stamps∧stamps≤1099511627776) :
   Calls Tryz.prog 91 #[cfgV raw ring writes stamps multi tries (.slice ra rn rc),.int .i64 start,sigV reads] w (fun e w'=>∃ x k,e=.returned (.tuple #[ptr x,.int .i64 0]) ∧
     Sep w0 X (cBlk x (comO x k ⟨ring,stamps,multi,start,0,reads,newChk ring start reads false,0,0⟩)::cBlk k (chkO (newChk ring start reads false))::Cs) w'):=by
 have HN:=kH (fun W=>New_chk W ring start reads false h0 h1 hr.1)
 obtain ⟨r0,r1,r2,r3,r4,r5,r6,r7,hq,hv⟩:=agg8 hr.1
 have HS:=kH hS
 rw [hv] at HN ⊢
 have d1:decide (stamps < 1)=false:=by simp;omega
 have d2:decide (1099511627776 < stamps)=false:=by simp;omega
 subst hq
 clear hS hv hr h0 h1 hs
 unfold cfgV
 go_enter Tryz.func91,Tryz.ntmps91
 go_wp2_with fail
 have hb1:=heap_old_at (o:=.cells #[.int .u64 r0,.int .u64 r1,.int .u64 r2,.int .u64 r3,.int .u64 r4,.int .u64 r5,.int .u64 r6,.int .u64 r7] 42 (0,0)) (heap_new_at (w:=w) (o:=.cells #[.int .i64 raw,.int .i64 ring,.int .i64 writes,.int .i64 stamps,.bool multi,.int .i64 tries,.slice ra rn rc] 24 (0,0)) rfl)
 have hb2:=heap_new_at (w:=w.alloc (.cells #[.int .i64 raw,.int .i64 ring,.int .i64 writes,.int .i64 stamps,.bool multi,.int .i64 tries,.slice ra rn rc] 24 (0,0))) (o:=.cells #[.int .u64 r0,.int .u64 r1,.int .u64 r2,.int .u64 r3,.int .u64 r4,.int .u64 r5,.int .u64 r6,.int .u64 r7] 42 (0,0)) rfl
 refine (HN.out _).mono ?_
 rintro e w2 ⟨k,hk,rfl,hck,hb⟩
 have HS2:=kH (((HS.out.alloc _).alloc _).got hb hk hck)
 have hb1':=(hb.block _ (heap_lt hb1)).trans hb1
 have hb2':=(hb.block _ (heap_lt hb2)).trans hb2
 have hc:=fun j=>cell_of_row w2 _ j _ _ _ hb1'
 have c1:=hc 1
 have c3:=hc 3
 have c4:=hc 4
 simp only [gA,gZ,gS] at c1 c3 c4
 obtain ⟨b0,b1,b2,b3,b4,b5,b6,b7⟩:=box8 hb2'
 have hsz:=hb.size
 simp only [World.size_alloc] at hsz b0 b1 b2 b3 b4 b5 b6 b7
 have HB1:=kH hb1'
 unfold ptr
 clear hb1 hb2 hb1' hb2' hb hck hk hc
 have hcl:w.heap.size < w2.heap.size:=by omega
 cases multi
 all_goals
   go_wp2_with fail
   go_region
   all_goals
     go_wp2
     go_ret2
     exact ⟨w2.heap.size,k,rfl,(HS2.out.new _).drew⟩
end
section
open Go.RowKit
variable {w0:World} {X:List Nat} {Cs:List Comp} {w:World} {x k p L:Nat} {F:List Nat} {m:MemD} {c:ComD}
def ComPost (w0:World) (X:List Nat) (Cs:List Comp) (x p L:Nat) (r:AnsD×ComD×MemD) (e:Ending) (w':World):Prop :=
 e=.returned r.1.val∧∃ k' F',Sep w0 X (cBlk x (comO x k' r.2.1)::cBlk k' (chkO r.2.1.chk)::cMem p r.2.2 (L+1) F'::Cs) w'
theorem checks_com (hS:Sep w0 X (cBlk x (comO x k c)::cBlk k (chkO c.chk)::cMem p m L F::Cs) w) (th:Int) (hok:ComOk c m.ring) (h0:c.state=0) (hL:L≤1073741824) :
   Calls Tryz.prog 280 #[ptr x,ptr p,.int .i64 th] w (ComPost w0 X Cs x p L (comStep m c)):=by
 obtain ⟨ring,stamps,multi,start,seen,reads,chk,state,stamp⟩:=c
 obtain ⟨hr,-,-,-,-,-,hck,-⟩:=hok
 simp only at hr hck h0
 subst h0 hr
 have hck:=hck rfl
 have hmem:MemOk m:=(hS.h2:RepM w p m L F).ok
 have ho:=chk_step hmem hck
 have HK:Hid (∀ W,RepM W p m L F→k ∉ F→W.heap[k]?=some (chkO chk)→Calls Tryz.prog 273 #[ptr k,ptr p,.int .i64 th] W (StepOf k p L F (fun w'=>ChkAt w' k (chkStep m chk).2) (chkStep m chk).1 m W)):=fun W hr hx hc=>Step_chk W k p th chk m L F hc hr hx hck hL
 have hstep:comStep m ⟨m.ring,stamps,multi,start,seen,reads,chk,0,stamp⟩ =
   (if (chkStep m chk).1.kind=4 then ((chkStep m chk).1,⟨m.ring,stamps,multi,start,seen,reads,(chkStep m chk).2,4,stamp⟩,m)
   else if (chkStep m chk).1.kind=3 then
     (if (chkStep m chk).2.seen < 0∨stamps≤(chkStep m chk).2.seen then (failA 6,⟨m.ring,stamps,multi,start,(chkStep m chk).2.seen,reads,(chkStep m chk).2,4,stamp⟩,m)
     else if multi=true∨1≤(chkStep m chk).2.seen then (moved,⟨m.ring,stamps,multi,start,(chkStep m chk).2.seen,reads,(chkStep m chk).2,1,stamp⟩,m)
     else (moved,⟨m.ring,stamps,multi,start,(chkStep m chk).2.seen,reads,(chkStep m chk).2,2,stamp⟩,m))
   else ((chkStep m chk).1,⟨m.ring,stamps,multi,start,seen,reads,(chkStep m chk).2,0,stamp⟩,m)):=rfl
 generalize comStep m ⟨m.ring,stamps,multi,start,seen,reads,chk,0,stamp⟩=R at hstep ⊢
 generalize chkStep m chk=RC at hstep HK ho
 obtain ⟨a,chk'⟩:=RC
 simp only at ho hstep HK
 cases ho with
 | moved k1 k2 k3 =>
   clear k1 k2 k3
   have HSTEP:=kH hstep
   have HS0:=kH (hS.new ans0)
   have k17:=(hS.new ans0).sw.cell 17
   simp only [comA,gA,gZ,gS,ans0] at k17
   clear hstep hS hck hmem
   unfold ptr at *
   go_enter Tryz.func280,Tryz.ntmps280
   go_wp2_with fail
   refine (Sep.step (r:=moved) (o':=chkO chk') HS0.out.f3.f3 (fun hr hx=>HK.out _ hr hx HS0.out.h2) (fun W' h=>h)).mono ?_
   rintro e w2 ⟨rfl,F2,S2⟩
   have S3:=S2.f3.s23
   rw [ansVal]
   simp only [moved]
   have HS3:=kH S3
   have l17:=S3.cell 17
   have l18:=S3.cell 18
   have f18:=S3.froz 18
   have l8:=S3.cell 8
   have f8:=S3.froz 8
   have l3:=S3.cell 3
   have l21:=S3.cell 21
   simp only [comA,gA,gZ,gS] at l17 l18 l8 l3 l21
   have hxl:=heap_lt S3.h0
   obtain ⟨⟨a0,a1,a2,a3⟩,⟨g0,g1,g2,g3⟩⟩:=S2.f2.ansBox
   have hgl:=heap_lt S2.f2.h0
   have hxg:x≠w.heap.size:=Ne.symm S3.f3.ne01
   clear S2 S3 k17
   go_wp2
   refine HS3.out.f3.retA moved rfl rfl rfl _ (fun W' S=>?_)
   have hR:=HSTEP.out
   rw [if_neg (by decide),if_neg (by decide)] at hR
   subst hR
   exact ⟨rfl,k,F2,S.s23⟩
 | waits k1 k2 =>
   clear k1 k2
   have HSTEP:=kH hstep
   have HS0:=kH (hS.new ans0)
   have k17:=(hS.new ans0).sw.cell 17
   simp only [comA,gA,gZ,gS,ans0] at k17
   clear hstep hS hck hmem
   unfold ptr at *
   go_enter Tryz.func280,Tryz.ntmps280
   go_wp2_with fail
   refine (Sep.step (r:=waits) (o':=chkO chk) HS0.out.f3.f3 (fun hr hx=>HK.out _ hr hx HS0.out.h2) (fun W' h=>h)).mono ?_
   rintro e w2 ⟨rfl,F2,S2⟩
   have S3:=S2.f3.s23
   rw [ansVal]
   simp only [waits]
   have HS3:=kH S3
   have l17:=S3.cell 17
   have l18:=S3.cell 18
   have f18:=S3.froz 18
   have l8:=S3.cell 8
   have f8:=S3.froz 8
   have l3:=S3.cell 3
   have l21:=S3.cell 21
   simp only [comA,gA,gZ,gS] at l17 l18 l8 l3 l21
   have hxl:=heap_lt S3.h0
   obtain ⟨⟨a0,a1,a2,a3⟩,⟨g0,g1,g2,g3⟩⟩:=S2.f2.ansBox
   have hgl:=heap_lt S2.f2.h0
   have hxg:x≠w.heap.size:=Ne.symm S3.f3.ne01
   clear S2 S3 k17
   go_wp2
   refine HS3.out.f3.retA waits rfl rfl rfl _ (fun W' S=>?_)
   have hR:=HSTEP.out
   rw [if_neg (by decide),if_neg (by decide)] at hR
   subst hR
   exact ⟨rfl,k,F2,S.s23⟩
 | @fail ee _ k1 k2 =>
   clear k1 k2
   have HSTEP:=kH hstep
   have HS0:=kH (hS.new ans0)
   have k17:=(hS.new ans0).sw.cell 17
   simp only [comA,gA,gZ,gS,ans0] at k17
   clear hstep hS hck hmem
   unfold ptr at *
   go_enter Tryz.func280,Tryz.ntmps280
   go_wp2_with fail
   refine (Sep.step (r:=(failA ee)) (o':=chkO chk') HS0.out.f3.f3 (fun hr hx=>HK.out _ hr hx HS0.out.h2) (fun W' h=>h)).mono ?_
   rintro e w2 ⟨rfl,F2,S2⟩
   have S3:=S2.f3.s23
   rw [ansVal]
   simp only [failA]
   have HS3:=kH S3
   have l17:=S3.cell 17
   have l18:=S3.cell 18
   have f18:=S3.froz 18
   have l8:=S3.cell 8
   have f8:=S3.froz 8
   have l3:=S3.cell 3
   have l21:=S3.cell 21
   simp only [comA,gA,gZ,gS] at l17 l18 l8 l3 l21
   have hxl:=heap_lt S3.h0
   obtain ⟨⟨a0,a1,a2,a3⟩,⟨g0,g1,g2,g3⟩⟩:=S2.f2.ansBox
   have hgl:=heap_lt S2.f2.h0
   have hxg:x≠w.heap.size:=Ne.symm S3.f3.ne01
   clear S2 S3 k17
   go_wp2
   refine (HS3.out.set 18 (.int .i64 4)).f3.retA (failA ee) rfl rfl rfl _ (fun W' S=>?_)
   have hR:=HSTEP.out
   rw [if_pos (show (failA ee).kind=4 from rfl)] at hR
   subst hR
   exact ⟨rfl,k,F2,S.s23⟩
 | done hk4 k2 k3 k4 =>
   have HSTEP:=kH hstep
   have HS0:=kH (hS.new ans0)
   have k17:=(hS.new ans0).sw.cell 17
   simp only [comA,gA,gZ,gS,ans0] at k17
   clear hstep hS hck hmem
   unfold ptr at *
   go_enter Tryz.func280,Tryz.ntmps280
   go_wp2_with fail
   refine (Sep.step (r:=(doneA 0)) (o':=chkO chk') HS0.out.f3.f3 (fun hr hx=>HK.out _ hr hx HS0.out.h2) (fun W' h=>h)).mono ?_
   rintro e w2 ⟨rfl,F2,S2⟩
   have S3:=S2.f3.s23
   rw [ansVal]
   simp only [doneA]
   have HS3:=kH S3
   have l17:=S3.cell 17
   have l18:=S3.cell 18
   have f18:=S3.froz 18
   have l8:=S3.cell 8
   have f8:=S3.froz 8
   have l3:=S3.cell 3
   have l21:=S3.cell 21
   simp only [comA,gA,gZ,gS] at l17 l18 l8 l3 l21
   have hxl:=heap_lt S3.h0
   obtain ⟨⟨a0,a1,a2,a3⟩,⟨g0,g1,g2,g3⟩⟩:=S2.f2.ansBox
   have hgl:=heap_lt S2.f2.h0
   have hxg:x≠w.heap.size:=Ne.symm S3.f3.ne01
   clear S2 S3 k17
   have HST:=kH (fun W (hW:ChkAt W k chk')=>start_chk W k chk' hW hk4)
   go_wp2_with fail
   refine (HST.out _ ((HS3.out.alloc _).h2)).mono ?_
   rintro e w3 ⟨rfl,hb3⟩
   have S4:=(HS3.out.alloc _).below hb3
   have f8':=S4.froz 8
   have l8':=S4.cell 8
   simp only [comA,gA,gZ,gS] at l8'
   have S5:=S4.set 8 (.int .i64 chk'.seen)
   have HS5:Hid (Sep w0 X (cBlk x (comO x k ⟨m.ring,stamps,multi,start,chk'.seen,reads,chk',0,stamp⟩)::cMem p m (L+1) F2::cBlk k (chkO chk')::cBlk w.heap.size ans0::Cs) _):=S5
   have m8:=S5.cell 8
   have m3:=S5.cell 3
   have m21:=S5.cell 21
   have m18:=S5.cell 18
   have f18':=S5.froz 18
   simp only [comA,gA,gZ,gS,List.setIfInBounds_toArray,List.set_cons_zero,List.set_cons_succ] at m8 m3 m21 m18
   clear a0 a1 a2 a3 g0 g1 g2 g3 l17 l18 f18 l8 f8 l3 l21 hxl hgl
   obtain ⟨⟨a0,a1,a2,a3⟩,⟨g0,g1,g2,g3⟩⟩:=S5.f3.ansBox
   have hgl:=heap_lt S5.f3.h0
   clear S4 S5 hb3
   generalize chk'.seen=sn at *
   unfold I64 at k4
   go_wp2_with fail
   generalize w3.setCell ⟨x,8,none⟩ (.int .i64 sn)=w4 at *
   by_cases hsn:sn < 0∨stamps≤sn
   · have HSN:=kH hsn
     rcases (show sn < 0∨(0≤sn∧stamps≤sn) by omega) with h | ⟨h,h'⟩
     all_goals
       try (have hd:decide (sn < 0)=false:=by simp;omega)
       clear hsn
       go_quiet (fail)
       go_wp2
       refine ((HS5.out.drewN _).set 18 (.int .i64 4)).f3.ret (failA 6) rfl rfl rfl (fun W' S=>?_)
       have hR:=HSTEP.out
       rw [if_neg (show ¬ (doneA 0).kind=4 by decide),if_pos (show (doneA 0).kind=3 from rfl),if_pos HSN.out] at hR
       subst hR
       exact ⟨rfl,k,F2,S.s23⟩
   · have HSN:=kH hsn
     have h0:0≤sn:=by omega
     have h1:sn < stamps:=by omega
     have hd:decide (sn < 0)=false:=by simp;omega
     have hd2:decide (stamps≤sn)=false:=by simp;omega
     clear hsn
     go_quiet (fail)
     cases multi
     · have m21':w4.cell? ⟨x,21,none⟩=some (.func (.func 114) #[.pointer (some ⟨x,0,none⟩)] #[]):=m21
       clear m21
       go_wp2_with fail
       refine (some_com (HS5.out.drewN _)).mono ?_
       rintro e w5 ⟨rfl,S6⟩
       have HS6:=kH S6
       clear S6
       by_cases h11:1≤sn
       · have H11:=kH h11
         go_wp2_with fail
         refine (moved_com HS6.out 1).mono ?_
         rintro e w7 ⟨rfl,S7⟩
         have HS7:=kH S7
         obtain ⟨⟨a0,a1,a2,a3⟩,⟨g0,g1,g2,g3⟩⟩:=S7.f3.ansBox
         clear S7
         go_wp2
         refine HS7.out.f3.ret moved rfl rfl rfl (fun W' S=>?_)
         have hR:=HSTEP.out
         rw [if_neg (show ¬ (doneA 0).kind=4 by decide),if_pos (show (doneA 0).kind=3 from rfl),if_neg HSN.out,if_pos (.inr H11.out)] at hR
         subst hR
         exact ⟨rfl,k,F2,S.s23⟩
       · have H11:=kH h11
         go_wp2_with fail
         refine (moved_com HS6.out 2).mono ?_
         rintro e w7 ⟨rfl,S7⟩
         have HS7:=kH S7
         obtain ⟨⟨a0,a1,a2,a3⟩,⟨g0,g1,g2,g3⟩⟩:=S7.f3.ansBox
         clear S7
         go_wp2
         refine HS7.out.f3.ret moved rfl rfl rfl (fun W' S=>?_)
         have hR:=HSTEP.out
         rw [if_neg (show ¬ (doneA 0).kind=4 by decide),if_pos (show (doneA 0).kind=3 from rfl),if_neg HSN.out,if_neg (fun h=>h.elim (by simp) (fun h=>by have:=H11.out;omega))] at hR
         subst hR
         exact ⟨rfl,k,F2,S.s23⟩
     · have m21':w4.cell? ⟨x,21,none⟩=some (.func (.func 116) #[.pointer (some ⟨x,0,none⟩)] #[]):=m21
       clear m21
       go_wp2_with fail
       refine always_com.mono ?_
       rintro e w5 ⟨rfl,rfl⟩
       go_wp2_with fail
       refine (moved_com (HS5.out.drewN _) 1).mono ?_
       rintro e w7 ⟨rfl,S7⟩
       have HS7:=kH S7
       obtain ⟨⟨a0,a1,a2,a3⟩,⟨g0,g1,g2,g3⟩⟩:=S7.f3.ansBox
       clear S7
       go_wp2
       refine HS7.out.f3.ret moved rfl rfl rfl (fun W' S=>?_)
       have hR:=HSTEP.out
       rw [if_neg (show ¬ (doneA 0).kind=4 by decide),if_pos (show (doneA 0).kind=3 from rfl),if_neg HSN.out,if_pos (.inl trivial)] at hR
       subst hR
       exact ⟨rfl,k,F2,S.s23⟩
theorem comV (x:Nat):looksV x true=.func (.func 115) #[.pointer (some ⟨x,0,none⟩)] #[]∧looksV x false=.func (.func 113) #[.pointer (some ⟨x,0,none⟩)] #[]:=⟨rfl,rfl⟩
theorem Step_com0 (hS:Sep w0 X (cBlk x (comO x k c)::cBlk k (chkO c.chk)::cMem p m L F::Cs) w) (th:Int) (hok:ComOk c m.ring) (h0:c.state=0) (hL:L≤1073741824) :
   Calls Tryz.prog 279 #[ptr x,ptr p,.int .i64 th] w (ComPost w0 X Cs x p L (comStep m c)):=by
 have hr:=hok.ring
 have HOK:=kH hok
 have HH:=kH h0
 generalize hR:comStep m c=R
 have HR:=kH hR
 have HS0:=kH (hS.new ans0)
 clear hS hok hR
 unfold ptr at *
 go_enter Tryz.func279,Tryz.ntmps279
 go_wp2_with fail
 refine (HS0.out.f3.sizes).mono ?_
 rintro e w1 ⟨rfl,S1⟩
 have S2:=S1.f2
 have k1:=S2.cell 1
 have k18:=S2.cell 18
 simp only [comA,gA,gZ,gS,hr,h0] at k1 k18
 have HS1:=kH S1.f3.f3
 clear S1 S2 h0 hr
 go_wp2_with fail
 refine (checks_com HS1.out th HOK.out HH.out hL).mono ?_
 rintro e w2 ⟨rfl,k',F2,S2⟩
 have HS2:=kH S2.f3
 rw [HR.out] at HS2
 obtain ⟨⟨a0,a1,a2,a3⟩,⟨g0,g1,g2,g3⟩⟩:=S2.f3.ansBox
 rw [ansVal]
 rw [HR.out]
 clear S2 k1 k18
 go_wp2
 refine HS2.out.ret _ rfl rfl rfl (fun W' S=>?_)
 exact ⟨rfl,k',F2,S⟩
theorem Step_com1 (hS:Sep w0 X (cBlk x (comO x k c)::cBlk k (chkO c.chk)::cMem p m L F::Cs) w) (th:Int) (hok:ComOk c m.ring) (h0:c.state=1) (hL:L≤1073741824) :
   Calls Tryz.prog 279 #[ptr x,ptr p,.int .i64 th] w (ComPost w0 X Cs x p L (comStep m c)):=by
 obtain ⟨ring,stamps,multi,start,seen,reads,chk,state,stamp⟩:=c
 obtain ⟨hr,hsp,-,-,-,-,-,hsn⟩:=hok
 simp only at hr hsp hsn h0
 subst h0 hr
 obtain ⟨hsn0,hsn1⟩:=hsn (by decide)
 have hmem:MemOk m:=(hS.h2:RepM w p m L F).ok
 have hrg:=hmem.ring
 have hrg1:1≤m.ring∧m.ring≤16:=by unfold MemD.ring;omega
 have hstep:comStep m ⟨m.ring,stamps,multi,start,seen,reads,chk,1,stamp⟩ =
   (if (if multi=true then freeH (m.head (seen+1)) (seen+1) m.ring else overH (m.head seen) seen)=true then (moved,⟨m.ring,stamps,multi,start,seen,reads,chk,2,stamp⟩,m) else (waits,⟨m.ring,stamps,multi,start,seen,reads,chk,1,stamp⟩,m)):=rfl
 generalize comStep m ⟨m.ring,stamps,multi,start,seen,reads,chk,1,stamp⟩=R at hstep ⊢
 have HS0:=kH (hS.new ans0)
 have hl:∃ lo:Bool,lo=(if multi=true then freeH (m.head (seen+1)) (seen+1) m.ring else overH (m.head seen) seen):=⟨_,rfl⟩
 obtain ⟨lo,hlo⟩:=hl
 rw [← hlo] at hstep
 have HSTEP:=kH hstep
 have HLO:=kH hlo
 clear hstep hS hsn hmem hrg hlo
 cases multi
 all_goals
   unfold ptr at *
   go_enter Tryz.func279,Tryz.ntmps279
   go_wp2_with fail
   refine (HS0.out.f3.sizes).mono ?_
   rintro e w1 ⟨rfl,S1⟩
   have S2:=S1.f2
   have k1:=S2.cell 1
   have k18:=S2.cell 18
   have k20:=S2.cell 20
   simp only [comA,gA,gZ,gS,(comV x).1,(comV x).2] at k1 k18 k20
   have HS1:=kH S2
   clear S1 S2
   go_wp2_with fail
   first
     | refine (slot_com (c:=⟨m.ring,stamps,true,start,seen,reads,chk,1,stamp⟩) HS1.out th rfl hrg1 (by simp only;omega) hL).mono ?_
     | refine (all_com (c:=⟨m.ring,stamps,false,start,seen,reads,chk,1,stamp⟩) HS1.out th rfl hrg1 hL).mono ?_
   rintro e w2 ⟨rfl,F2,S2⟩
   have HS2:=kH S2
   have l18:=S2.cell 18
   simp only [comA,gA,gZ,gS] at l18
   obtain ⟨⟨a0,a1,a2,a3⟩,⟨g0,g1,g2,g3⟩⟩:=S2.f2.ansBox
   have hlo:=HLO.out
   simp only [if_true,if_false,Bool.false_eq_true] at hlo
   simp only
   rw [← hlo]
   clear S2 k1 k18 k20 hlo
   cases lo
   · go_wp2
     refine HS2.out.f2.ret waits rfl rfl rfl (fun W' S=>?_)
     have hR:=HSTEP.out
     rw [if_neg (by simp)] at hR
     subst hR
     exact ⟨rfl,k,F2,S.s23⟩
   · go_wp2_with fail
     refine (moved_com HS2.out 2).mono ?_
     rintro e w3 ⟨rfl,S3⟩
     have HS3:=kH S3
     clear a0 a1 a2 a3 g0 g1 g2 g3
     obtain ⟨⟨a0,a1,a2,a3⟩,⟨g0,g1,g2,g3⟩⟩:=S3.f2.ansBox
     clear S3
     go_wp2
     refine HS3.out.f2.ret moved rfl rfl rfl (fun W' S=>?_)
     have hR:=HSTEP.out
     rw [if_pos trivial] at hR
     subst hR
     exact ⟨rfl,k,F2,S.s23⟩
end
end Go.Proofs.YtgfogfciobmmpaaGreatDoor
