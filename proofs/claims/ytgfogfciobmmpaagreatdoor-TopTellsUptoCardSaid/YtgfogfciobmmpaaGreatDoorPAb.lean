/- A part of the proof of the law TopTells: Ask0 ChnMach18 ChnMachP18 ChnMachB18 ChnMachC18a. -/
import Derived.Test.YtgfogfciobmmpaaGreatDoorPAa
import Derived.Test.YtgfogfciobmmpaaGreatDoorProg
import Derived.KernelRfl
import Derived.Lib.Hide
import Derived.Laws.EntriesVeiled
import Derived.Deep.RegionWith
import Derived.StillTailTactics
set_option linter.unusedSimpArgs false
set_option linter.unusedVariables false
set_option maxRecDepth 100000
set_option maxHeartbeats 8000000
namespace Go.Proofs.YtgfogfciobmmpaaGreatDoor
section
open Go.RowKit
theorem infoWant:(Tryz.prog.info? 109).map (·.size)=some 4:=by kernel_rfl
def takesB (base most want args:Int):Bool:=decide ((0≤most∧most≤16)∧0≤base∧base≤1024∧want=args)
end
namespace Chn
open Go.RowKit
structure WayD where
 cell:Int
 p:Int
 stopped:Bool
 key:Int
 at_:Bool
def WayD.cells (d:WayD):Array Value:=#[.int .i64 d.cell,.int .i64 d.p,.bool d.stopped,.int .i64 d.key,.bool d.at_]
inductive T
 | lays1 (k:Int) (d:WayD) (f:Int)
 | lays2 (k:Int) (d:WayD) (u:Int)
 | key (k:Int) (d:WayD) (node:Int)
 | link (k:Int) (d:WayD) (node:Int)
 | fin
 | delW (d:WayD)
 | delL (d:WayD)
 | delFin
inductive K
 | least
 | len
 | start (call k:Int)
 | keyOf
 | keyOf1
 | counts (n:Int)
 | goes (call k cell n:Int)
 | goes1 (call k cell n p:Int)
 | addF (k:Int) (d:WayD)
 | addQ (k:Int) (d:WayD) (f:Int)
 | addU (k:Int) (d:WayD)
 | delQ (d:WayD)
 | delF (d:WayD)
 | put (t:T)
 | done (x:WantS)
def keyI (n:Int):Int:=1+2 * n
def linkI (n:Int):Int:=2+2 * n
def endK (v c:Int):WantS×K:=(⟨6,0,v,c⟩,.done ⟨6,0,v,c⟩)
def addsK (base k:Int) (d:WayD):WantS×K:=if d.at_=true then endK 0 3 else (readS (base+1),.addF k d)
def delsK (base:Int) (d:WayD):WantS×K:=if d.at_=true then (readS (base+linkI d.p),.delQ d) else endK 0 1
def aboveK (base:Int) (d:WayD):WantS×K:=if d.at_=true then (readS (base+linkI d.p),.keyOf) else if d.stopped=true then endK d.key 0 else endK 0 1
def hasK (d:WayD):WantS×K:=if d.at_=true then endK 1 0 else endK 0 0
def thenK (base call k:Int) (d:WayD):WantS×K :=
 if call=1 then addsK base k d else if call=4 then delsK base d else if call=6 then hasK d else aboveK base d
def laysK (base k:Int) (d:WayD) (node:Int):WantS×K:=(putS (base+keyI node) k,.put (.key k d node))
def putK (base:Int):T→WantS×K
 | .lays1 k d f=>laysK base k d f
 | .lays2 k d u=>laysK base k d (u+1)
 | .key k d node=>(putS (base+linkI node) d.p,.put (.link k d node))
 | .link _ d node=>(putS (base+d.cell) node,.put .fin)
 | .fin=>endK 0 0
 | .delW d=>(readS (base+1),.delF d)
 | .delL d=>(putS (base+1) d.p,.put .delFin)
 | .delFin=>endK 0 0
def leadsP (most p:Int):Prop:=1≤p∧p≤most
instance (most p:Int):Decidable (leadsP most p):=by unfold leadsP;infer_instance
def goK (base most:Int):K→Int→WantS×K
 | .least,_=>(readS (base+0),.keyOf)
 | .len,_=>(readS (base+0),.counts 0)
 | .start call k,_=>(readS (base+0),.goes call k 0 0)
 | .keyOf,p=>if leadsP most p then (readS (base+keyI p),.keyOf1) else endK 0 1
 | .keyOf1,v=>endK v 0
 | .counts n,p=>if leadsP most p∧n≠most then (readS (base+linkI p),.counts (n+1)) else endK n 0
 | .goes call k cell n,p=>if leadsP most p∧n≠most then (readS (base+keyI p),.goes1 call k cell n p) else thenK base call k ⟨cell,p,false,0,false⟩
 | .goes1 call k cell n p,v=>if k≤v then thenK base call k ⟨cell,p,true,v,decide (v=k)⟩ else (readS (base+linkI p),.goes call k (linkI p) (n+1))
 | .addF k d,f=>if leadsP most f then (readS (base+linkI f),.addQ k d f) else (readS (base+2),.addU k d)
 | .addQ k d f,q=>(putS (base+1) q,.put (.lays1 k d f))
 | .addU k d,u=>if u < 0∨most≤u then endK 0 2 else (putS (base+2) (u+1),.put (.lays2 k d u))
 | .delQ d,q=>(putS (base+d.cell) q,.put (.delW d))
 | .delF d,f=>(putS (base+linkI d.p) f,.put (.delL d))
 | .put t,_=>putK base t
 | .done x,_=>(x,.done x)
def cellOk (c:Int):Prop:=0≤c∧c≤40
def OkD (most:Int) (d:WayD):Prop:=cellOk d.cell∧(d.at_=true→leadsP most d.p)
def OkT (most:Int):T→Prop
 | .lays1 _ d f=>OkD most d∧leadsP most f
 | .lays2 _ d u=>OkD most d∧0≤u∧u < most
 | .key _ d node=>OkD most d∧leadsP most node
 | .link _ d node=>OkD most d∧leadsP most node
 | .fin=>True
 | .delW d=>OkD most d∧leadsP most d.p
 | .delL d=>OkD most d∧leadsP most d.p
 | .delFin=>True
def OkK (most:Int):K→Prop
 | .counts n=>0≤n∧n≤most
 | .goes _ _ cell n=>cellOk cell∧0≤n∧n≤most
 | .goes1 _ _ cell n p=>cellOk cell∧0≤n∧n < most∧leadsP most p
 | .addF _ d=>OkD most d
 | .addQ _ d f=>OkD most d∧leadsP most f
 | .addU _ d=>OkD most d
 | .delQ d=>OkD most d∧leadsP most d.p
 | .delF d=>OkD most d∧leadsP most d.p
 | .put t=>OkT most t
 | _=>True
structure Ent where
 b:Nat
 cs:Array Value
 t:TypeId
def Store (w:World) (p:Nat) (B:List Ent):Prop:=∀ e∈B,e.b≠p∧w.heap[e.b]?=some (.cells e.cs e.t (0,0))
def Lies (w:World) (p:Nat) (base most:Int) (nx:Value):Prop:=w.heap[p]?=some (.cells #[.int .i64 base,.int .i64 most,nx] 238 (0,0))
def ptr (b:Nat):Value:=.pointer (some ⟨b,0,none⟩)
def XB (B:List Ent) (p b:Nat):Prop:=⟨b,#[.pointer (some ⟨p,0,none⟩)],191⟩∈B
def IB (B:List Ent) (v:Int) (b:Nat):Prop:=⟨b,#[.int .i64 v],3⟩∈B
def VB (B:List Ent) (v:Int) (b:Nat):Prop:=⟨b,#[.int .i64 v],2⟩∈B
def WB (B:List Ent) (d:WayD) (b:Nat):Prop:=⟨b,d.cells,243⟩∈B
def ThenV (B:List Ent) (p:Nat) (call k:Int) (v:Value):Prop :=
 ∃ bc bx bk,IB B call bc∧XB B p bx∧VB B k bk∧v=.func (.func 163) #[] #[ptr bc,ptr bx,ptr bk]
def LaysV (B:List Ent) (p:Nat) (k:Int) (d:WayD) (v:Value):Prop :=
 ∃ bx bk bw,XB B p bx∧VB B k bk∧WB B d bw∧v=.func (.func 194) #[] #[ptr bx,ptr bk,ptr bw]
def LaysB (B:List Ent) (p:Nat) (k:Int) (d:WayD) (b:Nat):Prop:=∃ lv,LaysV B p k d lv∧⟨b,#[lv],131⟩∈B
def TV (B:List Ent) (p:Nat):T→Value→Prop
 | .lays1 k d f,v=>∃ bl bf,LaysB B p k d bl∧VB B f bf∧v=.func (.func 201) #[] #[ptr bl,ptr bf]
 | .lays2 k d u,v=>∃ bl bu,LaysB B p k d bl∧VB B u bu∧v=.func (.func 203) #[] #[ptr bl,ptr bu]
 | .key _ d node,v=>∃ bx bn bw,XB B p bx∧VB B node bn∧WB B d bw∧v=.func (.func 196) #[] #[ptr bx,ptr bn,ptr bw]
 | .link _ d node,v=>∃ bx bw bn,XB B p bx∧WB B d bw∧VB B node bn∧v=.func (.func 197) #[] #[ptr bx,ptr bw,ptr bn]
 | .fin,v=>∃ bx,XB B p bx∧v=.func (.func 198) #[] #[ptr bx]
 | .delW d,v=>∃ bx bw,XB B p bx∧WB B d bw∧v=.func (.func 205) #[] #[ptr bx,ptr bw]
 | .delL d,v=>∃ bx bw,XB B p bx∧WB B d bw∧v=.func (.func 207) #[] #[ptr bx,ptr bw]
 | .delFin,v=>∃ bx,XB B p bx∧v=.func (.func 208) #[] #[ptr bx]
def FV (B:List Ent) (p:Nat):K→Value→Prop
 | .least,v=>∃ bx,XB B p bx∧v=.func (.func 156) #[] #[ptr bx]
 | .len,v=>∃ bx,XB B p bx∧v=.func (.func 159) #[] #[ptr bx]
 | .start call k,v=>∃ bx bk bc,XB B p bx∧VB B k bk∧IB B call bc∧v=.func (.func 161) #[] #[ptr bx,ptr bk,ptr bc]
 | .keyOf,v=>v=.func (.func 158) #[ptr p] #[]
 | .keyOf1,v=>∃ bx,XB B p bx∧v=.func (.func 189) #[] #[ptr bx]
 | .counts n,v=>∃ bx bn,XB B p bx∧VB B n bn∧v=.func (.func 190) #[] #[ptr bx,ptr bn]
 | .goes call k cell n,v=>∃ bx bn bt bc bk tv,XB B p bx∧VB B n bn∧ThenV B p call k tv∧⟨bt,#[tv],245⟩∈B∧IB B cell bc∧VB B k bk ∧
     v=.func (.func 192) #[] #[ptr bx,ptr bn,ptr bt,ptr bc,ptr bk]
 | .goes1 call k cell n q,v=>∃ bk bt bc bp bx bn tv,VB B k bk∧ThenV B p call k tv∧⟨bt,#[tv],245⟩∈B∧IB B cell bc∧VB B q bp∧XB B p bx∧VB B n bn ∧
     v=.func (.func 193) #[] #[ptr bk,ptr bt,ptr bc,ptr bp,ptr bx,ptr bn]
 | .addF k d,v=>∃ bx bl,XB B p bx∧LaysB B p k d bl∧v=.func (.func 199) #[] #[ptr bx,ptr bl]
 | .addQ k d f,v=>∃ bx bl bf,XB B p bx∧LaysB B p k d bl∧VB B f bf∧v=.func (.func 200) #[] #[ptr bx,ptr bl,ptr bf]
 | .addU k d,v=>∃ bx bl,XB B p bx∧LaysB B p k d bl∧v=.func (.func 202) #[] #[ptr bx,ptr bl]
 | .delQ d,v=>∃ bx bw,XB B p bx∧WB B d bw∧v=.func (.func 204) #[] #[ptr bx,ptr bw]
 | .delF d,v=>∃ bx bw,XB B p bx∧WB B d bw∧v=.func (.func 206) #[] #[ptr bx,ptr bw]
 | .put t,v=>∃ bt tv,TV B p t tv∧⟨bt,#[tv],266⟩∈B∧v=.func (.func 228) #[] #[ptr bt]
 | .done x,v=>∃ bw,⟨bw,#[.int .i64 x.kind,.int .i64 x.cell,.int .i64 x.value,.int .i64 x.code],109⟩∈B∧v=.func (.func 209) #[] #[ptr bw]
def StepPost (p:Nat) (base most:Int) (B:List Ent) (r:WantS×K) (w:World) (e:Ending) (w':World):Prop :=
 e=.returned r.1.val∧w.grownBy w' (some p)∧∃ nx N,Lies w' p base most nx∧(∀ x∈N,w.heap.size≤x.b∧w'.heap[x.b]?=some (.cells x.cs x.t (0,0)))∧FV (N++B) p r.2 nx
theorem grown_trans {a b c:World} {r:Option Nat} (h:a.grownBy b r) (k:b.grownBy c r):a.grownBy c r :=
 ⟨k.os.trans h.os,k.tape.trans h.tape,k.output.trans h.output,Nat.le_trans h.size k.size,fun q hq hne=>(k.block q (Nat.lt_of_lt_of_le hq h.size) hne).trans (h.block q hq hne)⟩
theorem close_step {w w0 w1:World} {p g:Nat} {base most:Int} {B M:List Ent} {r:WantS×K} {a b c d:Value} (h0:w.grownBy w0 (some p)) (hp:p < w.heap.size) (hg:w.heap.size≤g) (hg0:g < w0.heap.size)
   (hM:∀ x∈M,w.heap.size≤x.b∧x.b≠g∧w0.heap[x.b]?=some (.cells x.cs x.t (0,0))) {v1:Value} (h1:StepPost p base most (M++B) r w0 (.returned v1) w1) {e:Ending} (he:e=.returned r.1.val) :
   StepPost p base most B r w e ((((w1.setCell ⟨g,0,none⟩ a).setCell ⟨g,1,none⟩ b).setCell ⟨g,2,none⟩ c).setCell ⟨g,3,none⟩ d):=by
 obtain ⟨-,hgr,nx,N,hL,hN,hF⟩:=h1
 have hz0:=h0.size
 have hz1:=hgr.size
 have hset:∀ q,q≠g→∀ o,w1.heap[q]?=some o→((((w1.setCell ⟨g,0,none⟩ a).setCell ⟨g,1,none⟩ b).setCell ⟨g,2,none⟩ c).setCell ⟨g,3,none⟩ d).heap[q]?=some o:=fun q hq o ho =>
   heap_set_other (heap_set_other (heap_set_other (heap_set_other ho hq) hq) hq) hq
 refine ⟨he,⟨hgr.os.trans h0.os,hgr.tape.trans h0.tape,hgr.output.trans h0.output,by simp;omega,fun k hk hne=>?_⟩,nx,N++M,hset p (by omega) _ hL,?_,by rw [List.append_assoc];exact hF⟩
 · have e:k≠g:=by omega
   rw [Below.heap_setCell _ _ _ _ (by simpa using e),Below.heap_setCell _ _ _ _ (by simpa using e),Below.heap_setCell _ _ _ _ (by simpa using e),Below.heap_setCell _ _ _ _ (by simpa using e),hgr.block k (by omega) hne]
   exact h0.block k hk hne
 · intro x hx
   rcases List.mem_append.1 hx with h | h
   · obtain ⟨h1,h2⟩:=hN x h
     exact ⟨by omega,hset _ (by omega) _ h2⟩
   · obtain ⟨h1,h2,h3⟩:=hM x h
     exact ⟨h1,hset _ h2 _ ((hgr.block x.b (Array.getElem?_eq_some_iff.1 h3).1 (fun e=>by injection e with e;omega)).trans h3)⟩
theorem Store.app {w:World} {p:Nat} {M B:List Ent} (h1:Store w p M) (h2:Store w p B):Store w p (M++B):=fun e he=>(List.mem_append.1 he).elim (h1 e) (h2 e)
theorem Store.keep {w w':World} {p:Nat} {B:List Ent} (h:Store w p B) (hg:w.grownBy w' (some p)):Store w' p B:=fun e he=>by
 obtain ⟨h1,h2⟩:=h e he
 exact ⟨h1,(hg.block e.b (Array.getElem?_eq_some_iff.1 h2).1 (fun e=>by injection e with e;omega)).trans h2⟩
theorem ThenV.mono {B B':List Ent} (hs:∀ e∈B,e∈B') {p:Nat} {call k:Int} {v:Value} (h:ThenV B p call k v):ThenV B' p call k v:=by
 obtain ⟨a,b,c,h1,h2,h3,h4⟩:=h
 exact ⟨a,b,c,hs _ h1,hs _ h2,hs _ h3,h4⟩
theorem LaysB.mono {B B':List Ent} (hs:∀ e∈B,e∈B') {p:Nat} {k:Int} {d:WayD} {b:Nat} (h:LaysB B p k d b):LaysB B' p k d b:=by
 obtain ⟨lv,⟨x,y,z,h1,h2,h3,h4⟩,h5⟩:=h
 exact ⟨lv,⟨x,y,z,hs _ h1,hs _ h2,hs _ h3,h4⟩,hs _ h5⟩
theorem TV.mono {B B':List Ent} (hs:∀ e∈B,e∈B') {p:Nat} {t:T} {v:Value} (h:TV B p t v):TV B' p t v:=by
 cases t with
 | lays1=>obtain ⟨a,b,h1,h2,h3⟩:=h;exact ⟨a,b,h1.mono hs,hs _ h2,h3⟩
 | lays2=>obtain ⟨a,b,h1,h2,h3⟩:=h;exact ⟨a,b,h1.mono hs,hs _ h2,h3⟩
 | key=>obtain ⟨a,b,c,h1,h2,h3,h4⟩:=h;exact ⟨a,b,c,hs _ h1,hs _ h2,hs _ h3,h4⟩
 | link=>obtain ⟨a,b,c,h1,h2,h3,h4⟩:=h;exact ⟨a,b,c,hs _ h1,hs _ h2,hs _ h3,h4⟩
 | fin=>obtain ⟨a,h1,h2⟩:=h;exact ⟨a,hs _ h1,h2⟩
 | delW=>obtain ⟨a,b,h1,h2,h3⟩:=h;exact ⟨a,b,hs _ h1,hs _ h2,h3⟩
 | delL=>obtain ⟨a,b,h1,h2,h3⟩:=h;exact ⟨a,b,hs _ h1,hs _ h2,h3⟩
 | delFin=>obtain ⟨a,h1,h2⟩:=h;exact ⟨a,hs _ h1,h2⟩
end Chn
namespace Chn
open Go.RowKit
theorem lies3 {w:World} {p:Nat} {base most:Int} {nx:Value} (h:Lies w p base most nx) :
   (w.cell? ⟨p,0,none⟩=some (.int .i64 base)∧w.cell? ⟨p,1,none⟩=some (.int .i64 most)∧w.cell? ⟨p,2,none⟩=some nx)∧w.frozen? ⟨p,2,none⟩=false∧p < w.heap.size:=by
 unfold Lies at h
 have hc:=fun j=>cell_of_row w p j _ _ _ h
 refine ⟨⟨?_,?_,?_⟩,frozen_of_row w p 2 _ _ h,(Array.getElem?_eq_some_iff.1 h).1⟩
 · simpa using hc 0
 · simpa using hc 1
 · simpa using hc 2
theorem leads_calls (w:World) (p:Nat) (base most:Int) (nx:Value) (v:Int) (h:Lies w p base most nx) :
   Calls Tryz.prog 187 #[.pointer (some ⟨p,0,none⟩),.int .i64 v] w (Just (.bool (decide (leadsP most v))) w):=by
 obtain ⟨⟨c0,c1,c2⟩,-,hlt⟩:=lies3 h
 clear h
 rcases (show v < 1∨(1≤v∧v≤most)∨(1≤v∧most < v) from by omega) with h | ⟨h,h1⟩ | ⟨h,h1⟩
 · have e:decide (leadsP most v)=false:=decide_eq_false (fun h=>by have:=h.1;omega)
   rw [e]
   clear e
   go_enter Tryz.func187,Tryz.ntmps187
   go_wp2
   go_ret
   exact ⟨by first | rfl | simp_all,rfl⟩
 · have e:decide (leadsP most v)=true:=decide_eq_true ⟨h,h1⟩
   rw [e]
   clear e
   go_enter Tryz.func187,Tryz.ntmps187
   go_wp2
   go_ret
   exact ⟨by first | rfl | simp_all,rfl⟩
 · have e:decide (leadsP most v)=false:=decide_eq_false (fun h=>by have:=h.2;omega)
   rw [e]
   clear e
   go_enter Tryz.func187,Tryz.ntmps187
   go_wp2
   go_ret
   exact ⟨by first | rfl | simp_all,rfl⟩
theorem leads_t {w:World} {p:Nat} {base most:Int} {nx:Value} {v:Int} (h:Lies w p base most nx) (hl:leadsP most v) :
   Calls Tryz.prog 187 #[.pointer (some ⟨p,0,none⟩),.int .i64 v] w (Just (.bool true) w):=by
 have:=leads_calls w p base most nx v h
 rwa [decide_eq_true hl] at this
theorem leads_f {w:World} {p:Nat} {base most:Int} {nx:Value} {v:Int} (h:Lies w p base most nx) (hl:¬ leadsP most v) :
   Calls Tryz.prog 187 #[.pointer (some ⟨p,0,none⟩),.int .i64 v] w (Just (.bool false) w):=by
 have:=leads_calls w p base most nx v h
 rwa [decide_eq_false hl] at this
theorem lies_at {w W:World} {p:Nat} {base most:Int} {nx:Value} (h:Lies w p base most nx) (hW:W.heap=w.heap):Lies W p base most nx:=by
 unfold Lies;rw [hW];exact h
theorem key_calls (w:World) (n:Int) (h:0≤n) (h1:n≤100):Calls Tryz.prog 188 #[.int .i64 n] w (Just (.int .i64 (keyI n)) w):=by
 have e:wrap64 (1+wrap64 (2 * n))=keyI n:=by unfold wrap64 keyI;omega
 have HE:=kH e
 clear e
 go_enter Tryz.func188,Tryz.ntmps188
 go_wp2
 go_ret
 exact ⟨by first | rfl | rw [← HE.out];rfl,rfl⟩
theorem link_calls (w:World) (n:Int) (h:0≤n) (h1:n≤100):Calls Tryz.prog 191 #[.int .i64 n] w (Just (.int .i64 (linkI n)) w):=by
 have e:wrap64 (2+wrap64 (2 * n))=linkI n:=by unfold wrap64 linkI;omega
 have HE:=kH e
 clear e
 go_enter Tryz.func191,Tryz.ntmps191
 go_wp2
 go_ret
 exact ⟨by first | rfl | rw [← HE.out];rfl,rfl⟩
theorem keyR {most v:Int} (hl:leadsP most v) (hm:most≤16):0≤keyI v∧keyI v≤100:=by unfold leadsP at hl;unfold keyI;omega
theorem linkR {most v:Int} (hl:leadsP most v) (hm:most≤16):0≤linkI v∧linkI v≤100:=by unfold leadsP at hl;unfold linkI;omega
theorem linkC {most v:Int} (hl:leadsP most v) (hm:most≤16):cellOk (linkI v):=by unfold leadsP at hl;unfold linkI cellOk;omega
theorem cellR {c:Int} (hc:cellOk c):0≤c∧c≤100:=by unfold cellOk at hc;omega
theorem lead0 {most v:Int} (hl:leadsP most v):0≤v:=by unfold leadsP at hl;omega
theorem lead1 {most v:Int} (hl:leadsP most v) (hm:most≤16):v≤100:=by unfold leadsP at hl;omega
def inB (base most:Int):Prop:=0≤base∧base≤1024∧0≤most∧most≤16
theorem read_step (w:World) (p:Nat) (base most:Int) (nx:Value) (B:List Ent) (k:K) (cell:Int) (n:Nat) (bd cs:Array Value) (h:Lies w p base most nx) (hb:inB base most) (hc:0≤cell∧cell≤100) (hF:FV B p k (.func (.func n) bd cs)) :
   Calls Tryz.prog 157 #[.pointer (some ⟨p,0,none⟩),.int .i64 cell,.func (.func n) bd cs] w (StepPost p base most B (readS (base+cell),k) w):=by
 obtain ⟨⟨c0,c1,c2⟩,f2,hlt⟩:=lies3 h
 have HP:=kH h
 have HF:=kH hF
 obtain ⟨hb0,hb1,hm0,hm1⟩:=hb
 obtain ⟨hc0,hc1⟩:=hc
 clear h hF
 go_enter Tryz.func157,Tryz.ntmps157
 go_wp2
 refine bodyPost_ret (results_cell_row rfl _ _ _ _ _ _ _ rfl (heap_new (by simp)) Tryz.underlying109 rfl infoWant) rfl ⟨rfl,grown_alloc (grown_set (grown_refl _ _) _) _,_,[],kO (heap_set HP.out),(fun x hx=>nomatch hx),HF.out⟩
theorem write_step (w:World) (p:Nat) (base most:Int) (nx:Value) (B:List Ent) (t:T) (cell x:Int) (n:Nat) (bd cs:Array Value) (h:Lies w p base most nx) (hb:inB base most) (hc:0≤cell∧cell≤100) (hF:TV B p t (.func (.func n) bd cs)) :
   Calls Tryz.prog 195 #[.pointer (some ⟨p,0,none⟩),.int .i64 cell,.int .i64 x,.func (.func n) bd cs] w (StepPost p base most B (putS (base+cell) x,.put t) w):=by
 obtain ⟨⟨c0,c1,c2⟩,f2,hlt⟩:=lies3 h
 have HP:=kH h
 have HF:=kH hF
 obtain ⟨hb0,hb1,hm0,hm1⟩:=hb
 obtain ⟨hc0,hc1⟩:=hc
 clear h hF
 go_enter Tryz.func195,Tryz.ntmps195
 go_wp2
 refine bodyPost_ret (results_cell_row rfl _ _ _ _ _ _ _ rfl (heap_new (by simp)) Tryz.underlying109 rfl infoWant) rfl
   ⟨rfl,grown_alloc (grown_alloc (grown_set (grown_refl _ _) _) _) _,_,[⟨w.heap.size,#[.func (.func n) bd cs],266⟩],kO (kO (heap_set HP.out)),?_,w.heap.size,_,HF.out.mono (fun e he=>List.mem_cons_of_mem _ he),List.mem_cons_self,rfl⟩
 intro x hx
 obtain rfl:=List.mem_singleton.1 hx
 exact ⟨Nat.le_refl _,kO (heap_new (by simp))⟩
theorem done_step (w:World) (p:Nat) (base most:Int) (nx:Value) (B:List Ent) (v code:Int) (h:Lies w p base most nx) :
   Calls Tryz.prog 166 #[.pointer (some ⟨p,0,none⟩),.int .i64 v,.int .i64 code] w (StepPost p base most B (endK v code) w):=by
 obtain ⟨⟨c0,c1,c2⟩,f2,hlt⟩:=lies3 h
 have HP:=kH h
 clear h
 go_enter Tryz.func166,Tryz.ntmps166
 go_wp2
 refine bodyPost_ret (results_cell_row rfl _ _ _ _ _ _ _ rfl (kO (heap_new (by simp))) Tryz.underlying109 rfl infoWant) rfl
   ⟨rfl,grown_alloc (grown_alloc (grown_set (grown_refl _ _) _) _) _,_,[⟨w.heap.size+1,#[.int .i64 6,.int .i64 0,.int .i64 v,.int .i64 code],109⟩],kO (kO (heap_set HP.out)),?_,w.heap.size+1,List.mem_cons_self,rfl⟩
 intro x hx
 obtain rfl:=List.mem_singleton.1 hx
 exact ⟨by show w.heap.size≤w.heap.size+1;omega,heap_new (by simp)⟩
end Chn
namespace Chn
open Go.RowKit
theorem box_in {w:World} {p:Nat} {B:List Ent} {b:Nat} {a:Value} {t:TypeId} (hs:Store w p B) (h:⟨b,#[a],t⟩∈B):w.cell? ⟨b,0,none⟩=some a∧b < w.heap.size∧b≠p:=by
 obtain ⟨h1,h2⟩:=hs _ h
 have hc:=cell_of_row w b 0 _ _ _ h2
 exact ⟨by simpa using hc,(Array.getElem?_eq_some_iff.1 h2).1,h1⟩
theorem way_in {w:World} {p:Nat} {B:List Ent} {b:Nat} {d:WayD} (hs:Store w p B) (h:WB B d b) :
   (w.cell? ⟨b,0,none⟩=some (.int .i64 d.cell)∧w.cell? ⟨b,1,none⟩=some (.int .i64 d.p)∧w.cell? ⟨b,2,none⟩=some (.bool d.stopped)∧w.cell? ⟨b,3,none⟩=some (.int .i64 d.key)∧w.cell? ⟨b,4,none⟩=some (.bool d.at_))∧b < w.heap.size∧b≠p:=by
 obtain ⟨h1,h2⟩:=hs _ h
 have hc:=fun j=>cell_of_row w b j _ _ _ h2
 refine ⟨⟨?_,?_,?_,?_,?_⟩,(Array.getElem?_eq_some_iff.1 h2).1,h1⟩
 · exact (hc 0).trans rfl
 · exact (hc 1).trans rfl
 · exact (hc 2).trans rfl
 · exact (hc 3).trans rfl
 · exact (hc 4).trans rfl
theorem just_drew {f:FuncId} {args:Array Value} {w:World} {v:Value} (h:∀ W,W.heap=w.heap→Calls Tryz.prog f args W (Just v W)) (n:Nat) :
   Calls Tryz.prog f args (w.drewN n) fun e w''=>e=.returned v∧∃ m,w''=w.drewN m:=(h (w.drewN n) rfl).mono fun _ _ ⟨h1,h2⟩=>⟨h1,n,h2.symm⟩
end Chn
namespace Chn
open Go.RowKit
theorem counts_step (w:World) (p:Nat) (base most:Int) (nx:Value) (B:List Ent) (cell n:Int) (h:Lies w p base most nx) (hb:inB base most) (hc:cellOk cell) (hn:0≤n∧n≤most) :
   Calls Tryz.prog 160 #[.pointer (some ⟨p,0,none⟩),.int .i64 cell,.int .i64 n] w (StepPost p base most B (readS (base+cell),.counts n) w):=by
 obtain ⟨⟨c0,c1,c2⟩,f2,hlt⟩:=lies3 h
 have HP:=kH h
 have HB:=kH hb
 obtain ⟨hb0,hb1,hm0,hm1⟩:=hb
 clear h
 obtain ⟨hn0,hn1⟩:=hn
 go_enter Tryz.func160,Tryz.ntmps160
 go_wp2_with fail
 refine (read_step _ p base most nx ([⟨w.heap.size,#[.pointer (some ⟨p,0,none⟩)],191⟩,⟨w.heap.size+1,#[.int .i64 n],2⟩]++B) (.counts n) (cell) 190 (#[]) (#[.pointer (some ⟨w.heap.size,0,none⟩),.pointer (some ⟨w.heap.size+1,0,none⟩)]) (by first | exact HP.out | exact kO HP.out | exact kO (kO HP.out) | exact kO (kO (kO HP.out)) | exact kO (kO (kO (kO HP.out))) | exact kO (kO (kO (kO (kO HP.out)))) | exact kO (kO (kO (kO (kO (kO HP.out)))))) HB.out (cellR hc) ⟨_,_,(List.mem_append_left _ List.mem_cons_self),(List.mem_append_left _ (List.mem_cons_of_mem _ List.mem_cons_self)),rfl⟩).mono ?_
 rintro e w1 ⟨rfl,post⟩
 have hg1:=box_grown post.1 (show (World.heap _)[w.heap.size+2]?=some (.cells #[.int .i64 0,.int .i64 0,.int .i64 0,.int .i64 0] 109 (0,0)) from heap_new (by simp)) (by omega)
 obtain ⟨⟨d0,d1,d2,d3⟩,⟨g0,g1,g2,g3⟩,hz⟩:=box4 hg1
 simp only [WantS.val]
 go_wp2
 exact bodyPost_ret (results_cell_row rfl _ _ _ _ _ _ _ rfl (heap_set (heap_set (heap_set (heap_set hg1)))) Tryz.underlying109 rfl infoWant) rfl (close_step (g:=w.heap.size+2) (M:=[⟨w.heap.size,#[.pointer (some ⟨p,0,none⟩)],191⟩,⟨w.heap.size+1,#[.int .i64 n],2⟩]) (by repeat (first | exact grown_refl _ _ | refine grown_alloc ?_ _ | refine grown_drewN ?_ _ | refine grown_drew ?_)) hlt (by omega) (by simp) (by intro x hx;simp only [List.mem_cons,List.not_mem_nil,or_false] at hx;rcases hx with rfl | rfl <;> first | exact ⟨by simp,by simp,heap_new (by simp)⟩ | exact ⟨by simp,by simp,kO (heap_new (by simp))⟩ | exact ⟨by simp,by simp,kO (kO (heap_new (by simp)))⟩) ⟨rfl,post⟩ rfl)
theorem goes_step (w:World) (p:Nat) (base most:Int) (nx:Value) (B:List Ent) (call k cell n:Int) (tn:Nat) (tb tc:Array Value) (h:Lies w p base most nx) (hb:inB base most) (hc:cellOk cell) (hn:0≤n∧n≤most) (ht:ThenV B p call k (.func (.func tn) tb tc)) :
   Calls Tryz.prog 162 #[.pointer (some ⟨p,0,none⟩),.int .i64 k,.int .i64 cell,.int .i64 n,.func (.func tn) tb tc] w (StepPost p base most B (readS (base+cell),.goes call k cell n) w):=by
 obtain ⟨⟨c0,c1,c2⟩,f2,hlt⟩:=lies3 h
 have HP:=kH h
 have HB:=kH hb
 obtain ⟨hb0,hb1,hm0,hm1⟩:=hb
 clear h
 obtain ⟨hn0,hn1⟩:=hn
 have HT:=kH ht
 clear ht
 go_enter Tryz.func162,Tryz.ntmps162
 go_wp2_with fail
 refine (read_step _ p base most nx ([⟨w.heap.size,#[.pointer (some ⟨p,0,none⟩)],191⟩,⟨w.heap.size+1,#[.int .i64 k],2⟩,⟨w.heap.size+2,#[.int .i64 cell],3⟩,⟨w.heap.size+3,#[.int .i64 n],2⟩,⟨w.heap.size+4,#[.func (.func tn) tb tc],245⟩]++B) (.goes call k cell n) (cell) 192 (#[]) (#[.pointer (some ⟨w.heap.size,0,none⟩),.pointer (some ⟨w.heap.size+3,0,none⟩),.pointer (some ⟨w.heap.size+4,0,none⟩),.pointer (some ⟨w.heap.size+2,0,none⟩),.pointer (some ⟨w.heap.size+1,0,none⟩)]) (by first | exact HP.out | exact kO HP.out | exact kO (kO HP.out) | exact kO (kO (kO HP.out)) | exact kO (kO (kO (kO HP.out))) | exact kO (kO (kO (kO (kO HP.out)))) | exact kO (kO (kO (kO (kO (kO HP.out)))))) HB.out (cellR hc) ⟨_,_,_,_,_,_,(List.mem_append_left _ List.mem_cons_self),(List.mem_append_left _ (List.mem_cons_of_mem _ (List.mem_cons_of_mem _ (List.mem_cons_of_mem _ List.mem_cons_self)))),HT.out.mono (fun e he=>List.mem_append_right _ he),(List.mem_append_left _ (List.mem_cons_of_mem _ (List.mem_cons_of_mem _ (List.mem_cons_of_mem _ (List.mem_cons_of_mem _ List.mem_cons_self))))),(List.mem_append_left _ (List.mem_cons_of_mem _ (List.mem_cons_of_mem _ List.mem_cons_self))),(List.mem_append_left _ (List.mem_cons_of_mem _ List.mem_cons_self)),rfl⟩).mono ?_
 rintro e w1 ⟨rfl,post⟩
 have hg1:=box_grown post.1 (show (World.heap _)[w.heap.size+5]?=some (.cells #[.int .i64 0,.int .i64 0,.int .i64 0,.int .i64 0] 109 (0,0)) from heap_new (by simp)) (by omega)
 obtain ⟨⟨d0,d1,d2,d3⟩,⟨g0,g1,g2,g3⟩,hz⟩:=box4 hg1
 simp only [WantS.val]
 go_wp2
 exact bodyPost_ret (results_cell_row rfl _ _ _ _ _ _ _ rfl (heap_set (heap_set (heap_set (heap_set hg1)))) Tryz.underlying109 rfl infoWant) rfl (close_step (g:=w.heap.size+5) (M:=[⟨w.heap.size,#[.pointer (some ⟨p,0,none⟩)],191⟩,⟨w.heap.size+1,#[.int .i64 k],2⟩,⟨w.heap.size+2,#[.int .i64 cell],3⟩,⟨w.heap.size+3,#[.int .i64 n],2⟩,⟨w.heap.size+4,#[.func (.func tn) tb tc],245⟩]) (by repeat (first | exact grown_refl _ _ | refine grown_alloc ?_ _ | refine grown_drewN ?_ _ | refine grown_drew ?_)) hlt (by omega) (by simp) (by intro x hx;simp only [List.mem_cons,List.not_mem_nil,or_false] at hx;rcases hx with rfl | rfl | rfl | rfl | rfl <;> first | exact ⟨by simp,by simp,heap_new (by simp)⟩ | exact ⟨by simp,by simp,kO (heap_new (by simp))⟩ | exact ⟨by simp,by simp,kO (kO (heap_new (by simp)))⟩ | exact ⟨by simp,by simp,kO (kO (kO (heap_new (by simp))))⟩ | exact ⟨by simp,by simp,kO (kO (kO (kO (heap_new (by simp)))))⟩ | exact ⟨by simp,by simp,kO (kO (kO (kO (kO (heap_new (by simp))))))⟩) ⟨rfl,post⟩ rfl)
theorem keyOf_step (w:World) (p:Nat) (base most:Int) (nx:Value) (B:List Ent) (v:Int) (h:Lies w p base most nx) (hb:inB base most) :
   Calls Tryz.prog 158 #[.pointer (some ⟨p,0,none⟩),.int .i64 v] w (StepPost p base most B (goK base most .keyOf v) w):=by
 obtain ⟨⟨c0,c1,c2⟩,f2,hlt⟩:=lies3 h
 have HP:=kH h
 have HB:=kH hb
 obtain ⟨hb0,hb1,hm0,hm1⟩:=hb
 clear h
 by_cases hl:leadsP most v
 · rw [show goK base most (.keyOf) v=(readS (base+keyI v),.keyOf1) from if_pos hl]
   go_enter Tryz.func158,Tryz.ntmps158
   go_wp2_with fail
   refine (leads_t (by first | exact HP.out | exact kO HP.out | exact kO (kO HP.out) | exact kO (kO (kO HP.out)) | exact kO (kO (kO (kO HP.out))) | exact kO (kO (kO (kO (kO HP.out)))) | exact kO (kO (kO (kO (kO (kO HP.out)))))) hl).mono ?_
   rintro e w' ⟨rfl,rfl⟩
   go_wp2_with fail
   refine wp_region_still_tail 4 (by kernel_rfl) (by kernel_rfl) ?_
   change wpStill _ _ (World.drew _) (fun a'=>wpList _ _ _ _ a' (World.drew _)) _ _
   simp only [List.take_succ_cons,List.take_zero,List.drop_succ_cons,List.drop_zero]
   repeat still_step
   still_call ((key_calls _ (v) (lead0 hl) (lead1 hl hm1)).mono fun _ _ h=>⟨h.1,h.2.symm⟩)
   repeat still_step
   refine wpStill_nil ?_
   go_wp2_with fail
   refine (read_step _ p base most nx ([⟨w.heap.size,#[.pointer (some ⟨p,0,none⟩)],191⟩]++B) (.keyOf1) (keyI v) 189 (#[]) (#[.pointer (some ⟨w.heap.size,0,none⟩)]) (by first | exact HP.out | exact kO HP.out | exact kO (kO HP.out) | exact kO (kO (kO HP.out)) | exact kO (kO (kO (kO HP.out))) | exact kO (kO (kO (kO (kO HP.out)))) | exact kO (kO (kO (kO (kO (kO HP.out)))))) HB.out (keyR hl hm1) ⟨_,(List.mem_append_left _ List.mem_cons_self),rfl⟩).mono ?_
   rintro e w1 ⟨rfl,post⟩
   have hg1:=box_grown post.1 (show (World.heap _)[w.heap.size+1]?=some (.cells #[.int .i64 0,.int .i64 0,.int .i64 0,.int .i64 0] 109 (0,0)) from heap_new (by simp)) (by omega)
   obtain ⟨⟨d0,d1,d2,d3⟩,⟨g0,g1,g2,g3⟩,hz⟩:=box4 hg1
   simp only [WantS.val]
   go_wp2
   exact bodyPost_ret (results_cell_row rfl _ _ _ _ _ _ _ rfl (heap_set (heap_set (heap_set (heap_set hg1)))) Tryz.underlying109 rfl infoWant) rfl (close_step (g:=w.heap.size+1) (M:=[⟨w.heap.size,#[.pointer (some ⟨p,0,none⟩)],191⟩]) (by repeat (first | exact grown_refl _ _ | refine grown_alloc ?_ _ | refine grown_drewN ?_ _ | refine grown_drew ?_)) hlt (by omega) (by simp) (by intro x hx;simp only [List.mem_cons,List.not_mem_nil,or_false] at hx;rcases hx with rfl <;> first | exact ⟨by simp,by simp,heap_new (by simp)⟩ | exact ⟨by simp,by simp,kO (heap_new (by simp))⟩) ⟨rfl,post⟩ rfl)
 · rw [show goK base most (.keyOf) v=endK 0 1 from if_neg hl]
   go_enter Tryz.func158,Tryz.ntmps158
   go_wp2_with fail
   refine (leads_f (by first | exact HP.out | exact kO HP.out | exact kO (kO HP.out) | exact kO (kO (kO HP.out)) | exact kO (kO (kO (kO HP.out))) | exact kO (kO (kO (kO (kO HP.out)))) | exact kO (kO (kO (kO (kO (kO HP.out)))))) hl).mono ?_
   rintro e w' ⟨rfl,rfl⟩
   go_wp2_with fail
   refine (done_step _ p base most nx (B) (0) (1) (by first | exact HP.out | exact kO HP.out | exact kO (kO HP.out) | exact kO (kO (kO HP.out)) | exact kO (kO (kO (kO HP.out))) | exact kO (kO (kO (kO (kO HP.out)))) | exact kO (kO (kO (kO (kO (kO HP.out))))))).mono ?_
   rintro e w1 ⟨rfl,post⟩
   have hg1:=box_grown post.1 (show (World.heap _)[w.heap.size+1]?=some (.cells #[.int .i64 0,.int .i64 0,.int .i64 0,.int .i64 0] 109 (0,0)) from heap_new (by simp)) (by omega)
   obtain ⟨⟨d0,d1,d2,d3⟩,⟨g0,g1,g2,g3⟩,hz⟩:=box4 hg1
   simp only [WantS.val,endK]
   go_wp2
   exact bodyPost_ret (results_cell_row rfl _ _ _ _ _ _ _ rfl (heap_set (heap_set (heap_set (heap_set hg1)))) Tryz.underlying109 rfl infoWant) rfl (close_step (g:=w.heap.size+1) (M:=[]) (by repeat (first | exact grown_refl _ _ | refine grown_alloc ?_ _ | refine grown_drewN ?_ _ | refine grown_drew ?_)) hlt (by omega) (by simp) (fun x hx=>nomatch hx) ⟨rfl,post⟩ rfl)
theorem keyOf1_step (w:World) (p:Nat) (base most:Int) (nx:Value) (B:List Ent) (v:Int) (bx:Nat) (h:Lies w p base most nx) (hs:Store w p B) (hb:inB base most) (hbx:XB B p bx) :
   Calls Tryz.prog 189 #[.int .i64 v,.pointer (some ⟨bx,0,none⟩)] w (StepPost p base most B (endK v 0) w):=by
 obtain ⟨⟨c0,c1,c2⟩,f2,hlt⟩:=lies3 h
 have HP:=kH h
 have HB:=kH hb
 obtain ⟨hb0,hb1,hm0,hm1⟩:=hb
 obtain ⟨bx0,bxl,bxn⟩:=box_in hs hbx
 have Hbx:=kH hbx
 have HS:=kH hs
 clear h hs hbx
 go_enter Tryz.func189,Tryz.ntmps189
 go_wp2_with fail
 refine (done_step _ p base most nx (B) (v) (0) (by first | exact HP.out | exact kO HP.out | exact kO (kO HP.out) | exact kO (kO (kO HP.out)) | exact kO (kO (kO (kO HP.out))) | exact kO (kO (kO (kO (kO HP.out)))) | exact kO (kO (kO (kO (kO (kO HP.out))))))).mono ?_
 rintro e w1 ⟨rfl,post⟩
 have hg1:=box_grown post.1 (show (World.heap _)[w.heap.size]?=some (.cells #[.int .i64 0,.int .i64 0,.int .i64 0,.int .i64 0] 109 (0,0)) from heap_new (by simp)) (by omega)
 obtain ⟨⟨d0,d1,d2,d3⟩,⟨g0,g1,g2,g3⟩,hz⟩:=box4 hg1
 simp only [WantS.val,endK]
 go_wp2
 exact bodyPost_ret (results_cell_row rfl _ _ _ _ _ _ _ rfl (heap_set (heap_set (heap_set (heap_set hg1)))) Tryz.underlying109 rfl infoWant) rfl (close_step (g:=w.heap.size) (M:=[]) (by repeat (first | exact grown_refl _ _ | refine grown_alloc ?_ _ | refine grown_drewN ?_ _ | refine grown_drew ?_)) hlt (by omega) (by simp) (fun x hx=>nomatch hx) ⟨rfl,post⟩ rfl)
theorem least_step (w:World) (p:Nat) (base most:Int) (nx:Value) (B:List Ent) (v:Int) (bx:Nat) (h:Lies w p base most nx) (hs:Store w p B) (hb:inB base most) (hbx:XB B p bx) :
   Calls Tryz.prog 156 #[.int .i64 v,.pointer (some ⟨bx,0,none⟩)] w (StepPost p base most B (readS (base+0),.keyOf) w):=by
 obtain ⟨⟨c0,c1,c2⟩,f2,hlt⟩:=lies3 h
 have HP:=kH h
 have HB:=kH hb
 obtain ⟨hb0,hb1,hm0,hm1⟩:=hb
 obtain ⟨bx0,bxl,bxn⟩:=box_in hs hbx
 have Hbx:=kH hbx
 have HS:=kH hs
 clear h hs hbx
 go_enter Tryz.func156,Tryz.ntmps156
 go_wp2_with fail
 refine (read_step _ p base most nx (B) (.keyOf) (0) 158 (#[.pointer (some ⟨p,0,none⟩)]) (#[]) (by first | exact HP.out | exact kO HP.out | exact kO (kO HP.out) | exact kO (kO (kO HP.out)) | exact kO (kO (kO (kO HP.out))) | exact kO (kO (kO (kO (kO HP.out)))) | exact kO (kO (kO (kO (kO (kO HP.out)))))) HB.out (by omega) rfl).mono ?_
 rintro e w1 ⟨rfl,post⟩
 have hg1:=box_grown post.1 (show (World.heap _)[w.heap.size]?=some (.cells #[.int .i64 0,.int .i64 0,.int .i64 0,.int .i64 0] 109 (0,0)) from heap_new (by simp)) (by omega)
 obtain ⟨⟨d0,d1,d2,d3⟩,⟨g0,g1,g2,g3⟩,hz⟩:=box4 hg1
 simp only [WantS.val]
 go_wp2
 exact bodyPost_ret (results_cell_row rfl _ _ _ _ _ _ _ rfl (heap_set (heap_set (heap_set (heap_set hg1)))) Tryz.underlying109 rfl infoWant) rfl (close_step (g:=w.heap.size) (M:=[]) (by repeat (first | exact grown_refl _ _ | refine grown_alloc ?_ _ | refine grown_drewN ?_ _ | refine grown_drew ?_)) hlt (by omega) (by simp) (fun x hx=>nomatch hx) ⟨rfl,post⟩ rfl)
theorem len_step (w:World) (p:Nat) (base most:Int) (nx:Value) (B:List Ent) (v:Int) (bx:Nat) (h:Lies w p base most nx) (hs:Store w p B) (hb:inB base most) (hbx:XB B p bx) :
   Calls Tryz.prog 159 #[.int .i64 v,.pointer (some ⟨bx,0,none⟩)] w (StepPost p base most B (readS (base+0),.counts 0) w):=by
 obtain ⟨⟨c0,c1,c2⟩,f2,hlt⟩:=lies3 h
 have HP:=kH h
 have HB:=kH hb
 obtain ⟨hb0,hb1,hm0,hm1⟩:=hb
 obtain ⟨bx0,bxl,bxn⟩:=box_in hs hbx
 have Hbx:=kH hbx
 have HS:=kH hs
 clear h hs hbx
 go_enter Tryz.func159,Tryz.ntmps159
 go_wp2_with fail
 refine (counts_step _ p base most nx B 0 0 (by first | exact HP.out | exact kO HP.out | exact kO (kO HP.out) | exact kO (kO (kO HP.out)) | exact kO (kO (kO (kO HP.out))) | exact kO (kO (kO (kO (kO HP.out)))) | exact kO (kO (kO (kO (kO (kO HP.out)))))) HB.out (by unfold cellOk;omega) (by omega)).mono ?_
 rintro e w1 ⟨rfl,post⟩
 have hg1:=box_grown post.1 (show (World.heap _)[w.heap.size]?=some (.cells #[.int .i64 0,.int .i64 0,.int .i64 0,.int .i64 0] 109 (0,0)) from heap_new (by simp)) (by omega)
 obtain ⟨⟨d0,d1,d2,d3⟩,⟨g0,g1,g2,g3⟩,hz⟩:=box4 hg1
 simp only [WantS.val]
 go_wp2
 exact bodyPost_ret (results_cell_row rfl _ _ _ _ _ _ _ rfl (heap_set (heap_set (heap_set (heap_set hg1)))) Tryz.underlying109 rfl infoWant) rfl (close_step (g:=w.heap.size) (M:=[]) (by repeat (first | exact grown_refl _ _ | refine grown_alloc ?_ _ | refine grown_drewN ?_ _ | refine grown_drew ?_)) hlt (by omega) (by simp) (fun x hx=>nomatch hx) ⟨rfl,post⟩ rfl)
theorem counts1_step (w:World) (p:Nat) (base most:Int) (nx:Value) (B:List Ent) (n v:Int) (bx bn:Nat) (h:Lies w p base most nx) (hs:Store w p B) (hb:inB base most) (hbx:XB B p bx) (hbn:VB B n bn) (hn:0≤n∧n≤most) :
   Calls Tryz.prog 190 #[.int .i64 v,.pointer (some ⟨bx,0,none⟩),.pointer (some ⟨bn,0,none⟩)] w (StepPost p base most B (goK base most (.counts n) v) w):=by
 obtain ⟨⟨c0,c1,c2⟩,f2,hlt⟩:=lies3 h
 have HP:=kH h
 have HB:=kH hb
 obtain ⟨hb0,hb1,hm0,hm1⟩:=hb
 obtain ⟨bx0,bxl,bxn⟩:=box_in hs hbx
 have Hbx:=kH hbx
 obtain ⟨bn0,bnl,bnn⟩:=box_in hs hbn
 have Hbn:=kH hbn
 have HS:=kH hs
 clear h hs hbx hbn
 obtain ⟨hn0,hn1⟩:=hn
 by_cases hl:leadsP most v
 · by_cases hne:n=most
   · rw [show goK base most (.counts n) v=endK n 0 from if_neg (fun h=>h.2 hne)]
     have hne':(n == most)=true:=by simpa using hne
     clear hne
     go_enter Tryz.func190,Tryz.ntmps190
     go_wp2_with fail
     go_quiet ((go_at_call 187;exact just_drew (fun W hW=>leads_t (p:=p) (base:=base) (most:=most) (nx:=nx) (lies_at (kO HP.out) hW) hl) _))
     go_wp2_with fail
     refine (done_step _ p base most nx (B) (n) (0) (by first | exact HP.out | exact kO HP.out | exact kO (kO HP.out) | exact kO (kO (kO HP.out)) | exact kO (kO (kO (kO HP.out))) | exact kO (kO (kO (kO (kO HP.out)))) | exact kO (kO (kO (kO (kO (kO HP.out))))))).mono ?_
     rintro e w1 ⟨rfl,post⟩
     have hg1:=box_grown post.1 (show (World.heap _)[w.heap.size]?=some (.cells #[.int .i64 0,.int .i64 0,.int .i64 0,.int .i64 0] 109 (0,0)) from heap_new (by simp)) (by omega)
     obtain ⟨⟨d0,d1,d2,d3⟩,⟨g0,g1,g2,g3⟩,hz⟩:=box4 hg1
     simp only [WantS.val,endK]
     go_wp2
     exact bodyPost_ret (results_cell_row rfl _ _ _ _ _ _ _ rfl (heap_set (heap_set (heap_set (heap_set hg1)))) Tryz.underlying109 rfl infoWant) rfl (close_step (g:=w.heap.size) (M:=[]) (by repeat (first | exact grown_refl _ _ | refine grown_alloc ?_ _ | refine grown_drewN ?_ _ | refine grown_drew ?_)) hlt (by omega) (by simp) (fun x hx=>nomatch hx) ⟨rfl,post⟩ rfl)
   · rw [show goK base most (.counts n) v=(readS (base+linkI v),.counts (n+1)) from if_pos ⟨hl,hne⟩]
     have hne':(n == most)=false:=by simpa using hne
     have hne2:n+1≤most:=by omega
     go_enter Tryz.func190,Tryz.ntmps190
     go_wp2_with fail
     go_quiet ((go_at_call 187;exact just_drew (fun W hW=>leads_t (p:=p) (base:=base) (most:=most) (nx:=nx) (lies_at (kO HP.out) hW) hl) _))
     go_wp2_with fail
     refine wp_region_still_tail 5 (by kernel_rfl) (by kernel_rfl) ?_
     change wpStill _ _ (World.drew _) (fun a'=>wpList _ _ _ _ a' (World.drew _)) _ _
     simp only [List.take_succ_cons,List.take_zero,List.drop_succ_cons,List.drop_zero]
     repeat still_step
     still_call ((link_calls _ (v) (lead0 hl) (lead1 hl hm1)).mono fun _ _ h=>⟨h.1,h.2.symm⟩)
     repeat still_step
     refine wpStill_nil ?_
     go_wp2_with fail
     refine (counts_step _ p base most nx B (linkI v) (n+1) (by first | exact HP.out | exact kO HP.out | exact kO (kO HP.out) | exact kO (kO (kO HP.out)) | exact kO (kO (kO (kO HP.out))) | exact kO (kO (kO (kO (kO HP.out)))) | exact kO (kO (kO (kO (kO (kO HP.out)))))) HB.out (linkC hl hm1) (by omega)).mono ?_
     rintro e w1 ⟨rfl,post⟩
     have hg1:=box_grown post.1 (show (World.heap _)[w.heap.size]?=some (.cells #[.int .i64 0,.int .i64 0,.int .i64 0,.int .i64 0] 109 (0,0)) from heap_new (by simp)) (by omega)
     obtain ⟨⟨d0,d1,d2,d3⟩,⟨g0,g1,g2,g3⟩,hz⟩:=box4 hg1
     simp only [WantS.val]
     go_wp2
     exact bodyPost_ret (results_cell_row rfl _ _ _ _ _ _ _ rfl (heap_set (heap_set (heap_set (heap_set hg1)))) Tryz.underlying109 rfl infoWant) rfl (close_step (g:=w.heap.size) (M:=[]) (by repeat (first | exact grown_refl _ _ | refine grown_alloc ?_ _ | refine grown_drewN ?_ _ | refine grown_drew ?_)) hlt (by omega) (by simp) (fun x hx=>nomatch hx) ⟨rfl,post⟩ rfl)
 · rw [show goK base most (.counts n) v=endK n 0 from if_neg (fun h=>hl h.1)]
   go_enter Tryz.func190,Tryz.ntmps190
   go_wp2_with fail
   go_quiet ((go_at_call 187;exact just_drew (fun W hW=>leads_f (p:=p) (base:=base) (most:=most) (nx:=nx) (lies_at (kO HP.out) hW) hl) _))
   go_wp2_with fail
   refine (done_step _ p base most nx (B) (n) (0) (by first | exact HP.out | exact kO HP.out | exact kO (kO HP.out) | exact kO (kO (kO HP.out)) | exact kO (kO (kO (kO HP.out))) | exact kO (kO (kO (kO (kO HP.out)))) | exact kO (kO (kO (kO (kO (kO HP.out))))))).mono ?_
   rintro e w1 ⟨rfl,post⟩
   have hg1:=box_grown post.1 (show (World.heap _)[w.heap.size]?=some (.cells #[.int .i64 0,.int .i64 0,.int .i64 0,.int .i64 0] 109 (0,0)) from heap_new (by simp)) (by omega)
   obtain ⟨⟨d0,d1,d2,d3⟩,⟨g0,g1,g2,g3⟩,hz⟩:=box4 hg1
   simp only [WantS.val,endK]
   go_wp2
   exact bodyPost_ret (results_cell_row rfl _ _ _ _ _ _ _ rfl (heap_set (heap_set (heap_set (heap_set hg1)))) Tryz.underlying109 rfl infoWant) rfl (close_step (g:=w.heap.size) (M:=[]) (by repeat (first | exact grown_refl _ _ | refine grown_alloc ?_ _ | refine grown_drewN ?_ _ | refine grown_drew ?_)) hlt (by omega) (by simp) (fun x hx=>nomatch hx) ⟨rfl,post⟩ rfl)
theorem start_step (w:World) (p:Nat) (base most:Int) (nx:Value) (B:List Ent) (call k v:Int) (bx bk bc:Nat) (h:Lies w p base most nx) (hs:Store w p B) (hb:inB base most) (hbx:XB B p bx) (hbk:VB B k bk) (hbc:IB B call bc) :
   Calls Tryz.prog 161 #[.int .i64 v,.pointer (some ⟨bx,0,none⟩),.pointer (some ⟨bk,0,none⟩),.pointer (some ⟨bc,0,none⟩)] w (StepPost p base most B (readS (base+0),.goes call k 0 0) w):=by
 obtain ⟨⟨c0,c1,c2⟩,f2,hlt⟩:=lies3 h
 have HP:=kH h
 have HB:=kH hb
 obtain ⟨hb0,hb1,hm0,hm1⟩:=hb
 obtain ⟨bx0,bxl,bxn⟩:=box_in hs hbx
 have Hbx:=kH hbx
 obtain ⟨bk0,bkl,bkn⟩:=box_in hs hbk
 have Hbk:=kH hbk
 obtain ⟨bc0,bcl,bcn⟩:=box_in hs hbc
 have Hbc:=kH hbc
 have HS:=kH hs
 clear h hs hbx hbk hbc
 go_enter Tryz.func161,Tryz.ntmps161
 go_wp2_with fail
 refine (goes_step _ p base most nx B call k 0 0 163 #[] #[.pointer (some ⟨bc,0,none⟩),.pointer (some ⟨bx,0,none⟩),.pointer (some ⟨bk,0,none⟩)] (by first | exact HP.out | exact kO HP.out | exact kO (kO HP.out) | exact kO (kO (kO HP.out)) | exact kO (kO (kO (kO HP.out))) | exact kO (kO (kO (kO (kO HP.out)))) | exact kO (kO (kO (kO (kO (kO HP.out)))))) HB.out (by unfold cellOk;omega) (by omega) ⟨_,_,_,Hbc.out,Hbx.out,Hbk.out,rfl⟩).mono ?_
 rintro e w1 ⟨rfl,post⟩
 have hg1:=box_grown post.1 (show (World.heap _)[w.heap.size]?=some (.cells #[.int .i64 0,.int .i64 0,.int .i64 0,.int .i64 0] 109 (0,0)) from heap_new (by simp)) (by omega)
 obtain ⟨⟨d0,d1,d2,d3⟩,⟨g0,g1,g2,g3⟩,hz⟩:=box4 hg1
 simp only [WantS.val]
 go_wp2
 exact bodyPost_ret (results_cell_row rfl _ _ _ _ _ _ _ rfl (heap_set (heap_set (heap_set (heap_set hg1)))) Tryz.underlying109 rfl infoWant) rfl (close_step (g:=w.heap.size) (M:=[]) (by repeat (first | exact grown_refl _ _ | refine grown_alloc ?_ _ | refine grown_drewN ?_ _ | refine grown_drew ?_)) hlt (by omega) (by simp) (fun x hx=>nomatch hx) ⟨rfl,post⟩ rfl)
end Chn
end Go.Proofs.YtgfogfciobmmpaaGreatDoor
