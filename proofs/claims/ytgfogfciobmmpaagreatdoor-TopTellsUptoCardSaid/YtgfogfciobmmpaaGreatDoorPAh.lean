/- A part of the proof of the law TopTells: Shelf SigEq PlcPRefCheck PlcPAhead. -/
import Derived.Test.YtgfogfciobmmpaaGreatDoorPAe
import Derived.Test.YtgfogfciobmmpaaGreatDoorPAg
import Derived.Shelf.Small.Bits
import Derived.Shelf.Strconv.Itoa0
import Derived.Ground.Names2Prog
import Derived.Shelf.Slices.Clone
import Derived.Ground.SlgnProg
import Derived.Shelf.SlicesE.Clone
import Derived.Test.YtgfogfciobmmpaaGreatDoorProg
import Derived.ChangeKeysEq
set_option linter.unusedSimpArgs false
set_option linter.unusedVariables false
set_option maxRecDepth 100000
set_option maxHeartbeats 8000000
namespace Go.Proofs
open Go.Shelf
def Tryz.lays125_ren:Go.Shelf.Ren:=⟨fun | 125=>168 | 128=>210 | 129=>211 | n=>n,fun | 46=>248 | 3=>3 | 51=>263 | 53=>40 | 4=>4 | 5=>5 | 9=>9 | n=>n,fun | n=>n⟩
theorem Tryz.lays125:Go.Proofs.Lays.n125 Tryz.prog Tryz.lays125_ren:={
 mixed:=by kernel_rfl
 f125:=Tryz.func168.trans (congrArg some (by kernel_rfl))
 f128:=Tryz.func210.trans (congrArg some (by kernel_rfl))
 f129:=Tryz.func211.trans (congrArg some (by kernel_rfl))
 t3:=Tryz.underlying3
 a3:=Tryz.isAgg3
 z3:=Tryz.sizeOf3
 v3:=Tryz.zeroValue3
 t4:=Tryz.underlying4
 a4:=Tryz.isAgg4
 z4:=Tryz.sizeOf4
 v4:=Tryz.zeroValue4
 t5:=Tryz.underlying5
 a5:=Tryz.isAgg5
 z5:=Tryz.sizeOf5
 v5:=Tryz.zeroValue5
 t9:=Tryz.underlying9
 a9:=Tryz.isAgg9
 z9:=Tryz.sizeOf9
 v9:=Tryz.zeroValue9
 t46:=Tryz.underlying248
 a46:=Tryz.isAgg248
 z46:=Tryz.sizeOf248
 v46:=Tryz.zeroValue248
 t51:=Tryz.underlying263
 a51:=Tryz.isAgg263
 z51:=Tryz.sizeOf263
 v51:=Tryz.zeroValue263
 t53:=Tryz.underlying40
 a53:=Tryz.isAgg40
 z53:=Tryz.sizeOf40
 v53:=Tryz.zeroValue40 }
theorem Tryz.bits_Len (x:Int) (w:World) (h0:0≤x) (h1:x≤18446744073709551615) :
   Calls Tryz.prog 168 #[.int .u64 x] w fun e w'=>e=.returned (.int .i64 (Lib.bitLen x.toNat))∧w'=w:=Any.bits_Len Tryz.lays125 x w h0 h1
def Tryz.clonestr_ren:Go.Shelf.Ren:=⟨fun | 41=>33 | n=>n,fun | 22=>25 | 23=>9 | 4=>4 | n=>n,fun | n=>n⟩
theorem Tryz.clonestr:Go.Proofs.SlLaysE0.n41 Tryz.prog Tryz.clonestr_ren:={
 mixed:=by kernel_rfl
 f41:=⟨Tryz.f33.name,by decide,Tryz.func33.trans (congrArg some (by kernel_rfl))⟩
 t4:=Tryz.underlying4
 a4:=Tryz.isAgg4
 z4:=Tryz.sizeOf4
 v4:=Tryz.zeroValue4
 t22:=Tryz.underlying25
 a22:=Tryz.isAgg25
 z22:=Tryz.sizeOf25
 v22:=Tryz.zeroValue25 }
open Go.RowKit Go.Lib in
theorem Tryz.Clone_str (i0:TypeInfo) (z:Value) (size bytes:Nat) (hi:Tryz.prog.info? 9=some i0) (hz0:i0.zero=some z) (hz1:i0.size=size) (hz2:i0.bytes=bytes) (hzs:z.cells.size=size) (hsz:0 < size) (z23:∀ w,(Go.sizeOf 9).run Tryz.prog w=.ok size w) (b off n c:Nat) (news:List Value) (w:World) (hl:news.length=n * size) (hn:n≤maxLen) (hbig:n * bytes≤140737488355328) (hc:∀ j u,news[j]?=some u→w.cell? ⟨b,off+j,none⟩=some u) (h1:∀ u∈news,u.oneCell'=true) :
   Calls Tryz.prog 33 #[.slice (some ⟨b,off,none⟩) n c] w fun e w'=>∃ v',e=.returned v'∧w'.ownsRow w.heap.size 9 size v' n news∧v'≠.slice none 0 0∧Below w.heap.size w w':=AnyE.slices_Clone Tryz.clonestr i0 z size bytes hi hz0 hz1 hz2 hzs hsz z23 b off n c news w hl hn hbig hc h1
open Go.RowKit Go.Lib in
theorem Tryz.Clone_str_nil (n c:Nat) (w:World) :
   Calls Tryz.prog 33 #[.slice none n c] w fun e w'=>e=.returned (.slice none 0 0)∧w'=w:=AnyE.slices_Clone_nil Tryz.clonestr n c w
def Tryz.clonei64_ren:Go.Shelf.Ren:=⟨fun | 41=>35 | n=>n,fun | 22=>66 | 23=>2 | 4=>4 | n=>n,fun | n=>n⟩
theorem Tryz.clonei64:Go.Proofs.SlLaysE0.n41 Tryz.prog Tryz.clonei64_ren:={
 mixed:=by kernel_rfl
 f41:=⟨Tryz.f35.name,by decide,Tryz.func35.trans (congrArg some (by kernel_rfl))⟩
 t4:=Tryz.underlying4
 a4:=Tryz.isAgg4
 z4:=Tryz.sizeOf4
 v4:=Tryz.zeroValue4
 t22:=Tryz.underlying66
 a22:=Tryz.isAgg66
 z22:=Tryz.sizeOf66
 v22:=Tryz.zeroValue66 }
open Go.RowKit Go.Lib in
theorem Tryz.Clone_i64 (i0:TypeInfo) (z:Value) (size bytes:Nat) (hi:Tryz.prog.info? 2=some i0) (hz0:i0.zero=some z) (hz1:i0.size=size) (hz2:i0.bytes=bytes) (hzs:z.cells.size=size) (hsz:0 < size) (z23:∀ w,(Go.sizeOf 2).run Tryz.prog w=.ok size w) (b off n c:Nat) (news:List Value) (w:World) (hl:news.length=n * size) (hn:n≤maxLen) (hbig:n * bytes≤140737488355328) (hc:∀ j u,news[j]?=some u→w.cell? ⟨b,off+j,none⟩=some u) (h1:∀ u∈news,u.oneCell'=true) :
   Calls Tryz.prog 35 #[.slice (some ⟨b,off,none⟩) n c] w fun e w'=>∃ v',e=.returned v'∧w'.ownsRow w.heap.size 2 size v' n news∧v'≠.slice none 0 0∧Below w.heap.size w w':=AnyE.slices_Clone Tryz.clonei64 i0 z size bytes hi hz0 hz1 hz2 hzs hsz z23 b off n c news w hl hn hbig hc h1
open Go.RowKit Go.Lib in
theorem Tryz.Clone_i64_nil (n c:Nat) (w:World) :
   Calls Tryz.prog 35 #[.slice none n c] w fun e w'=>e=.returned (.slice none 0 0)∧w'=w:=AnyE.slices_Clone_nil Tryz.clonei64 n c w
def Tryz.cloneev_ren:Go.Shelf.Ren:=⟨fun | 41=>22 | n=>n,fun | 22=>37 | 23=>44 | 4=>4 | n=>n,fun | n=>n⟩
theorem Tryz.cloneev:Go.Proofs.SlLaysE0.n41 Tryz.prog Tryz.cloneev_ren:={
 mixed:=by kernel_rfl
 f41:=⟨Tryz.f22.name,by decide,Tryz.func22.trans (congrArg some (by kernel_rfl))⟩
 t4:=Tryz.underlying4
 a4:=Tryz.isAgg4
 z4:=Tryz.sizeOf4
 v4:=Tryz.zeroValue4
 t22:=Tryz.underlying37
 a22:=Tryz.isAgg37
 z22:=Tryz.sizeOf37
 v22:=Tryz.zeroValue37 }
open Go.RowKit Go.Lib in
theorem Tryz.Clone_ev (i0:TypeInfo) (z:Value) (size bytes:Nat) (hi:Tryz.prog.info? 44=some i0) (hz0:i0.zero=some z) (hz1:i0.size=size) (hz2:i0.bytes=bytes) (hzs:z.cells.size=size) (hsz:0 < size) (z23:∀ w,(Go.sizeOf 44).run Tryz.prog w=.ok size w) (b off n c:Nat) (news:List Value) (w:World) (hl:news.length=n * size) (hn:n≤maxLen) (hbig:n * bytes≤140737488355328) (hc:∀ j u,news[j]?=some u→w.cell? ⟨b,off+j,none⟩=some u) (h1:∀ u∈news,u.oneCell'=true) :
   Calls Tryz.prog 22 #[.slice (some ⟨b,off,none⟩) n c] w fun e w'=>∃ v',e=.returned v'∧w'.ownsRow w.heap.size 44 size v' n news∧v'≠.slice none 0 0∧Below w.heap.size w w':=AnyE.slices_Clone Tryz.cloneev i0 z size bytes hi hz0 hz1 hz2 hzs hsz z23 b off n c news w hl hn hbig hc h1
open Go.RowKit Go.Lib in
theorem Tryz.Clone_ev_nil (n c:Nat) (w:World) :
   Calls Tryz.prog 22 #[.slice none n c] w fun e w'=>e=.returned (.slice none 0 0)∧w'=w:=AnyE.slices_Clone_nil Tryz.cloneev n c w
def Tryz.clonereg_ren:Go.Shelf.Ren:=⟨fun | 41=>34 | n=>n,fun | 22=>22 | 23=>90 | 4=>4 | n=>n,fun | n=>n⟩
theorem Tryz.clonereg:Go.Proofs.SlLaysE0.n41 Tryz.prog Tryz.clonereg_ren:={
 mixed:=by kernel_rfl
 f41:=⟨Tryz.f34.name,by decide,Tryz.func34.trans (congrArg some (by kernel_rfl))⟩
 t4:=Tryz.underlying4
 a4:=Tryz.isAgg4
 z4:=Tryz.sizeOf4
 v4:=Tryz.zeroValue4
 t22:=Tryz.underlying22
 a22:=Tryz.isAgg22
 z22:=Tryz.sizeOf22
 v22:=Tryz.zeroValue22 }
open Go.RowKit Go.Lib in
theorem Tryz.Clone_reg (i0:TypeInfo) (z:Value) (size bytes:Nat) (hi:Tryz.prog.info? 90=some i0) (hz0:i0.zero=some z) (hz1:i0.size=size) (hz2:i0.bytes=bytes) (hzs:z.cells.size=size) (hsz:0 < size) (z23:∀ w,(Go.sizeOf 90).run Tryz.prog w=.ok size w) (b off n c:Nat) (news:List Value) (w:World) (hl:news.length=n * size) (hn:n≤maxLen) (hbig:n * bytes≤140737488355328) (hc:∀ j u,news[j]?=some u→w.cell? ⟨b,off+j,none⟩=some u) (h1:∀ u∈news,u.oneCell'=true) :
   Calls Tryz.prog 34 #[.slice (some ⟨b,off,none⟩) n c] w fun e w'=>∃ v',e=.returned v'∧w'.ownsRow w.heap.size 90 size v' n news∧v'≠.slice none 0 0∧Below w.heap.size w w':=AnyE.slices_Clone Tryz.clonereg i0 z size bytes hi hz0 hz1 hz2 hzs hsz z23 b off n c news w hl hn hbig hc h1
open Go.RowKit Go.Lib in
theorem Tryz.Clone_reg_nil (n c:Nat) (w:World) :
   Calls Tryz.prog 34 #[.slice none n c] w fun e w'=>e=.returned (.slice none 0 0)∧w'=w:=AnyE.slices_Clone_nil Tryz.clonereg n c w
end Go.Proofs
namespace Go.Proofs.YtgfogfciobmmpaaGreatDoor
section
open Go.RowKit
theorem cellsU64:Tryz.prog.cellsOf 40=1:=by kernel_rfl
theorem eqg_sig:Tryz.prog.eqGuardType Tryz.prog.depth 42=false:=by kernel_rfl
theorem infoU64:∃ i,Tryz.prog.info? 40=some i∧i.size=1:=by
 have h:(Tryz.prog.info? 40).map (·.size)=some 1:=by kernel_rfl
 cases hi:Tryz.prog.info? 40 with
 | none=>rw [hi] at h;simp at h
 | some i=>rw [hi] at h;exact ⟨i,rfl,by simpa using h⟩
theorem plainU64:Tryz.prog.plainKey 40=true:=by kernel_rfl
def eq8 (a b:List Int):Bool:=decide (a=b)
theorem run_items (w:World) (xs ys:Array Value) (f g:Nat→Int):∀ (is:List Nat),(∀ i∈is,xs[i]?=some (.int .u64 (f i))∧ys[i]?=some (.int .u64 (g i))) →
   (Op.eqItems (9998+1) 40 1 xs ys is).run Tryz.prog w=.ok (is.all fun i=>f i == g i) w
 | [],_=>by simp [Op.eqItems]
 | i::is,h=>by
   obtain ⟨h1,h2⟩:=h i List.mem_cons_self
   have ih:=run_items w xs ys f g is (fun k hk=>h k (List.mem_cons_of_mem _ hk))
   have he:=run_equalIn_int w 9998 40 .u64 .u64 (f i) (g i) Tryz.underlying40
   simp only [Op.eqItems,Sem.run_bind,Nat.mul_one,run_part_plain w plainU64 h1,run_part_plain w plainU64 h2,Result.andThen_ok,he,List.all_cons]
   cases f i == g i
   · simp
   · simpa using ih
theorem all8 (a0 a1 a2 a3 a4 a5 a6 a7 b0 b1 b2 b3 b4 b5 b6 b7:Int) :
   ((List.range 8).all fun k=>[a0,a1,a2,a3,a4,a5,a6,a7].getD k 0 == [b0,b1,b2,b3,b4,b5,b6,b7].getD k 0)=eq8 [a0,a1,a2,a3,a4,a5,a6,a7] [b0,b1,b2,b3,b4,b5,b6,b7]:=by
 unfold eq8
 rw [Bool.eq_iff_iff]
 simp [List.range,List.range.loop]
theorem run_equal_sig0 (w:World) (a0 a1 a2 a3 a4 a5 a6 a7 b0 b1 b2 b3 b4 b5 b6 b7:Int) :
   (Op.equal 42 (.agg #[.int .u64 a0,.int .u64 a1,.int .u64 a2,.int .u64 a3,.int .u64 a4,.int .u64 a5,.int .u64 a6,.int .u64 a7]) (.agg #[.int .u64 b0,.int .u64 b1,.int .u64 b2,.int .u64 b3,.int .u64 b4,.int .u64 b5,.int .u64 b6,.int .u64 b7])).run Tryz.prog w =
     .ok (eq8 [a0,a1,a2,a3,a4,a5,a6,a7] [b0,b1,b2,b3,b4,b5,b6,b7]) w:=by
 obtain ⟨i,hi,hs⟩:=infoU64
 unfold Op.equal
 rw [show Op.maxDepth=9998+1+1 from rfl,run_equalIn_array w (9998+1) _ _ Tryz.underlying42 hi,cellsU64]
 rw [run_items w _ _ (fun k=>[a0,a1,a2,a3,a4,a5,a6,a7].getD k 0) (fun k=>[b0,b1,b2,b3,b4,b5,b6,b7].getD k 0)]
 · rw [all8]
 · intro k hk
   simp only [List.mem_range] at hk
   rcases (show k=0∨k=1∨k=2∨k=3∨k=4∨k=5∨k=6∨k=7 by omega) with rfl | rfl | rfl | rfl | rfl | rfl | rfl | rfl <;> exact ⟨rfl,rfl⟩
theorem run_equal_sig (w:World) (a0 a1 a2 a3 a4 a5 a6 a7 b0 b1 b2 b3 b4 b5 b6 b7:Int) :
   (Op.equalIn 10000 42 (.agg #[.int .u64 a0,.int .u64 a1,.int .u64 a2,.int .u64 a3,.int .u64 a4,.int .u64 a5,.int .u64 a6,.int .u64 a7]) (.agg #[.int .u64 b0,.int .u64 b1,.int .u64 b2,.int .u64 b3,.int .u64 b4,.int .u64 b5,.int .u64 b6,.int .u64 b7])).run Tryz.prog w =
     .ok (eq8 [a0,a1,a2,a3,a4,a5,a6,a7] [b0,b1,b2,b3,b4,b5,b6,b7]) w:=run_equal_sig0 w a0 a1 a2 a3 a4 a5 a6 a7 b0 b1 b2 b3 b4 b5 b6 b7
end
namespace Plc
open Go.RowKit
theorem RefCheck_fields (w:World) (B:Nat) (c:Cfg) (v:Value) (rs:List (Int×Int)) (hr:ReadsR w B v rs) (hf:fieldsB c rs.length=false) :
   Calls Tryz.prog 36 #[c.val v] w (Gives (.int .i64 13) w):=by
 obtain ⟨hl,a,cp,rfl,hcp,hcm,-⟩:=hr
 obtain ⟨raw,ring,writes,stamps,multi,tries⟩:=c
 have hf':=of_decide_eq_false hf
 dsimp only at hf'
 unfold Cfg.val Cfg.cells
 dsimp only
 clear hf
 rcases (show raw < 1∨(1≤raw∧64 < raw)∨(1≤raw∧raw≤64) from by omega) with z | ⟨z0,z⟩ | ⟨a0,b0⟩
 · clear hf'
   go_enter Tryz.func36,Tryz.ntmps36
   go_wp2
   go_ret
   exact ⟨rfl,below_alloc _ _⟩
 · clear hf'
   go_enter Tryz.func36,Tryz.ntmps36
   go_wp2
   go_ret
   exact ⟨rfl,below_alloc _ _⟩
 rcases (show ring < 1∨(1≤ring∧16 < ring)∨(1≤ring∧ring≤16) from by omega) with z | ⟨z0,z⟩ | ⟨a1,b1⟩
 · clear hf'
   go_enter Tryz.func36,Tryz.ntmps36
   go_wp2
   go_ret
   exact ⟨rfl,below_alloc _ _⟩
 · clear hf'
   go_enter Tryz.func36,Tryz.ntmps36
   go_wp2
   go_ret
   exact ⟨rfl,below_alloc _ _⟩
 rcases (show writes < 1∨(1≤writes∧24 < writes)∨(1≤writes∧writes≤24) from by omega) with z | ⟨z0,z⟩ | ⟨a2,b2⟩
 · clear hf'
   go_enter Tryz.func36,Tryz.ntmps36
   go_wp2
   go_ret
   exact ⟨rfl,below_alloc _ _⟩
 · clear hf'
   go_enter Tryz.func36,Tryz.ntmps36
   go_wp2
   go_ret
   exact ⟨rfl,below_alloc _ _⟩
 rcases (show stamps < 1∨(1≤stamps∧1099511627776 < stamps)∨(1≤stamps∧stamps≤1099511627776) from by omega) with z | ⟨z0,z⟩ | ⟨a3,b3⟩
 · clear hf'
   go_enter Tryz.func36,Tryz.ntmps36
   go_wp2
   go_ret
   exact ⟨rfl,below_alloc _ _⟩
 · clear hf'
   go_enter Tryz.func36,Tryz.ntmps36
   go_wp2
   go_ret
   exact ⟨rfl,below_alloc _ _⟩
 rcases (show tries < 1∨(1≤tries∧255 < tries)∨(1≤tries∧tries≤255) from by omega) with z | ⟨z0,z⟩ | ⟨a4,b4⟩
 · clear hf'
   go_enter Tryz.func36,Tryz.ntmps36
   go_wp2
   go_ret
   exact ⟨rfl,below_alloc _ _⟩
 · clear hf'
   go_enter Tryz.func36,Tryz.ntmps36
   go_wp2
   go_ret
   exact ⟨rfl,below_alloc _ _⟩
 have z:(8:Int) < (rs.length:Int):=by omega
 clear hf'
 go_enter Tryz.func36,Tryz.ntmps36
 go_wp2
 go_ret
 exact ⟨rfl,below_alloc _ _⟩
theorem RefCheck_loop (w:World) (B:Nat) (c:Cfg) (v:Value) (rs:List (Int×Int)) (hr:ReadsR w B v rs) (hB:B≤w.heap.size) (hf:fieldsB c rs.length=true) :
   Calls Tryz.prog 36 #[c.val v] w (Gives (.int .i64 (checkE c rs)) w):=by
 obtain ⟨hl,a,cp,rfl,hcp,hcm,hr⟩:=hr
 have HALL:=kH (check_all hf)
 have HREG:=kH (fun k hk h=>check_reg (c:=c) (rs:=rs) (k:=k) hk h)
 generalize checkE c rs=E at *
 obtain ⟨raw,ring,writes,stamps,multi,tries⟩:=c
 obtain ⟨h1,h1',h2,h2',h3,h3',h4,h4',h5,h5',h6⟩:=of_decide_eq_true hf
 dsimp only at h1 h1' h2 h2' h3 h3' h4 h4' h5 h5'
 have h6':(rs.length:Int)≤8:=by omega
 have HR:=kH hr
 unfold Cfg.val Cfg.cells
 dsimp only
 clear hf hr
 go_enter Tryz.func36,Tryz.ntmps36
 go_wp2
 go_loopg [3] (rs.length+1) (fun n v3 wr=>∃ (k:Nat),k≤rs.length∧v3=.int .i64 k∧n+k=rs.length+1∧(∀ j,j < k→regB (rs.getD j (0,0)).1 (rs.getD j (0,0)).2=true)∧wr.heap[w.heap.size]?=some (.cells #[.int .i64 raw,.int .i64 ring,.int .i64 writes,.int .i64 stamps,.bool multi,.int .i64 tries,.slice a rs.length cp] 24 (0,0))∧Below w.heap.size w wr)
 case atStart=>exact ⟨0,Nat.zero_le _,rfl,rfl,fun j hj=>by omega,heap_new rfl,below_alloc _ _⟩
 case round =>
   obtain ⟨k,hk,rfl,hn,hall,hC,bel⟩:=hrel
   have HC:=kH hC
   obtain ⟨q0,q1,q2,q3,q4,q5,q6⟩:=box7 hC
   have HN:=kH hn
   have HA:=kH hall
   clear hn hall hC
   have hwsz:=(Array.getElem?_eq_some_iff.1 HC.out).1
   by_cases hlt:k < rs.length
   · rcases HR.out with h | ⟨b,off,rfl,hbB,hcell⟩
     · exact absurd hlt (by rw [h];simp)
     have hc0:=(bel.cell (p:=⟨b,off+k * 2,none⟩) (by simp;omega)).trans (hcell k hlt).1
     have hc1:=(bel.cell (p:=⟨b,off+k * 2+1,none⟩) (by simp;omega)).trans (hcell k hlt).2
     have hreg:=HREG.out k hlt
     have HA':Hid (regB (rs.getD k (0,0)).1 (rs.getD k (0,0)).2=true→∀ j,j < k+1→regB (rs.getD j (0,0)).1 (rs.getD j (0,0)).2=true):=fun h j hj=>by
       by_cases e:j=k
       · subst e;exact h
       · exact HA.out j (by omega)
     generalize (rs.getD k (0,0)).1=kind at *
     generalize (rs.getD k (0,0)).2=cap at *
     have hbs:b < wr.heap.size:=by have:=bel.size;omega
     have hlt':(k:Int) < (rs.length:Int):=by omega
     clear hcell
     by_cases hb:regB kind cap=true
     · have he:=sizeE_of hb
       rw [if_pos rfl] at he
       clear hreg
       have HB:=kH hb
       have HE:=kH he
       clear hb he
       go_wp2_with fail
       refine (RSize_calls kind cap _).mono ?_
       rintro e w1 ⟨rfl,hb1⟩
       simp only [sizeV,HE.out]
       have HC1:=kH (box_keep hb1 HC.out)
       go_wp2
       go_roundg (rs.length - k)
       case measure=>have:=HN.out;omega
       case rel=>exact ⟨k+1,by omega,by go_num,by omega,HA'.out HB.out,HC1.out,bel.trans (hb1.mono bel.size)⟩
     · have hb':regB kind cap=false:=by simpa using hb
       have he:=sizeE_of hb'
       rw [if_neg (by decide)] at he
       have HE:=kH he
       have HF:=kH (hreg hb')
       clear hb hb' he hreg
       go_wp2_with fail
       refine (RSize_calls kind cap _).mono ?_
       rintro e w1 ⟨rfl,hb1⟩
       simp only [sizeV,HE.out]
       go_wp2
       go_ret
       exact ⟨by rw [HF.out];rfl,bel.trans (hb1.mono bel.size)⟩
   · have HF:=kH (HALL.out (fun j hj=>HA.out j (by omega)))
     have hk':k=rs.length:=by omega
     subst hk'
     go_wp2
     go_ret
     exact ⟨by rw [HF.out];rfl,bel⟩
theorem RefCheck_calls (w:World) (B:Nat) (c:Cfg) (v:Value) (rs:List (Int×Int)) (hr:ReadsR w B v rs) (hB:B≤w.heap.size) :
   Calls Tryz.prog 36 #[c.val v] w (Gives (.int .i64 (checkE c rs)) w):=by
 by_cases hf:fieldsB c rs.length=true
 · exact RefCheck_loop w B c v rs hr hB hf
 · rw [check_fields (by simpa using hf)]
   exact RefCheck_fields w B c v rs hr (by simpa using hf)
end Plc
namespace Plc
open Go.RowKit
def sumSz (rs:List (Int×Int)) (k:Nat):Int:=((rs.take k).map fun r=>sizeN r.1 r.2).sum
theorem sum_snoc (rs:List (Int×Int)) (k:Nat) (h:k < rs.length):sumSz rs (k+1)=sumSz rs k+sizeN (rs.getD k (0,0)).1 (rs.getD k (0,0)).2:=by
 unfold sumSz
 rw [List.take_succ_eq_append_getElem h,List.map_append,List.sum_append]
 simp [List.getD_eq_getElem?_getD,h]
theorem sum_bd (rs:List (Int×Int)) (k:Nat) (h:k≤rs.length):0≤sumSz rs k∧sumSz rs k≤49 * k:=by
 induction k with
 | zero=>simp [sumSz]
 | succ k ih =>
   have h1:=ih (by omega)
   have h2:=size_bd (rs.getD k (0,0)).1 (rs.getD k (0,0)).2
   rw [sum_snoc rs k (by omega)]
   omega
theorem ahead_calls (w:World) (B:Nat) (c:Cfg) (v:Value) (rs:List (Int×Int)) (r:Nat) (hr:ReadsR w B v rs) (hB:B≤w.heap.size) (hn:rs.length≤8) (hrn:r≤rs.length) (h0:1≤c.raw) (h1:c.raw≤64) :
   Calls Tryz.prog 52 #[c.val v,.int .i64 (r:Int)] w (Gives (.int .i64 (c.raw+sumSz rs r)) w):=by
 obtain ⟨hl,a,cp,rfl,hcp,hcm,hr⟩:=hr
 obtain ⟨raw,ring,writes,stamps,multi,tries⟩:=c
 dsimp only at h0 h1
 have HR:=kH hr
 unfold Cfg.val Cfg.cells
 dsimp only
 have hrc:(r:Int)≤(cp:Int):=by omega
 have hr0:(0:Int)≤(r:Int):=by omega
 clear hr
 go_enter Tryz.func52,Tryz.ntmps52
 go_wp2
 have hs0:sumSz rs 0=0:=rfl
 go_loopg [5,17] (r+1) (fun n vs vk wr=>∃ (k:Nat),k≤r∧vk=.int .i64 k∧vs=.int .i64 (raw+sumSz rs k)∧n+k=r+1∧Below w.heap.size w wr)
 case atStart=>exact ⟨0,Nat.zero_le _,rfl,by rw [hs0,Int.add_zero],rfl,below_alloc _ _⟩
 case round =>
   clear hs0
   obtain ⟨k,hk,rfl,rfl,hn',bel⟩:=hrel
   have HN:=kH hn'
   have hsb:=sum_bd rs k (by omega)
   clear hn'
   by_cases hlt:k < r
   · rcases HR.out with h | ⟨b,off,rfl,hbB,hcell⟩
     · exact absurd (Nat.lt_of_lt_of_le hlt hrn) (by rw [h];simp)
     have hc0:=(bel.cell (p:=⟨b,off+k * 2,none⟩) (by simp;omega)).trans (hcell k (by omega)).1
     have hc1:=(bel.cell (p:=⟨b,off+k * 2+1,none⟩) (by simp;omega)).trans (hcell k (by omega)).2
     have hsn:=sum_snoc rs k (by omega)
     generalize (rs.getD k (0,0)).1=kind at *
     generalize (rs.getD k (0,0)).2=cap at *
     have hz:=size_bd kind cap
     have hbs:b < wr.heap.size:=by have:=bel.size;omega
     have hlt':(k:Int) < (r:Int):=by omega
     have HS:=kH hsn
     clear hcell hsn
     generalize hS:sumSz rs k=S at *
     have HSS:=kH hS
     clear hS
     go_wp2_with fail
     refine (Size_calls kind cap _).mono ?_
     rintro e w1 ⟨rfl,hb1⟩
     simp only [sizeV]
     generalize hZ:sizeN kind cap=Z at *
     have HZ:=kH hZ
     clear hZ
     go_wp2
     go_roundg (r - k)
     case measure=>have:=HN.out;omega
     case rel=>exact ⟨k+1,by omega,by go_num,by rw [HS.out,← Int.add_assoc],by omega,bel.trans ((below_trans (below_alloc _ _) hb1).mono bel.size)⟩
   · have hk':k=r:=by omega
     subst hk'
     go_wp2
     go_ret
     exact ⟨rfl,bel⟩
def cellsV (c:Cfg) (rs:List (Int×Int)):Value:=.tuple #[.int .i64 (if checkE c rs=0 then c.raw+sumSz rs rs.length else 0),.int .i64 (checkE c rs)]
def baseV (c:Cfg) (rs:List (Int×Int)) (r:Int):Value :=
 if checkE c rs=0 then (if r < 0∨rs.length≤r then .tuple #[.int .i64 0,.int .i64 1] else .tuple #[.int .i64 (c.raw+sumSz rs r.toNat),.int .i64 0]) else .tuple #[.int .i64 0,.int .i64 (checkE c rs)]
theorem check_ok {c:Cfg} {rs:List (Int×Int)} (h:checkE c rs=0):fieldsB c rs.length=true:=by
 unfold checkE at h
 split at h
 · rename_i h1;exact h1.1
 · omega
theorem Cells_calls (w:World) (B:Nat) (c:Cfg) (v:Value) (rs:List (Int×Int)) (hr:ReadsR w B v rs) (hB:B≤w.heap.size) :
   Calls Tryz.prog 31 #[c.val v] w (Gives (cellsV c rs) w):=by
 have HR:=kH hr
 obtain ⟨hl,a,cp,rfl,hcp,hcm,-⟩:=hr
 by_cases hE:checkE c rs=0
 · obtain ⟨f0,f1,-,-,-,-,-,-,-,-,f2⟩:=of_decide_eq_true (check_ok hE)
   have e:cellsV c rs=.tuple #[.int .i64 (c.raw+sumSz rs rs.length),.int .i64 0]:=by unfold cellsV;rw [if_pos hE,hE]
   rw [e]
   have HC:=kH (fun w B v h1 h2=>Check_calls w B c v rs h1 h2)
   have HE:=kH hE
   have HH:=kH (fun w B v h1 h2=>ahead_calls w B c v rs rs.length h1 h2 f2 (Nat.le_refl _) f0 f1)
   unfold Cfg.val Cfg.cells at *
   clear e hE
   go_enter Tryz.func31,Tryz.ntmps31
   go_wp2_with fail
   refine (HC.out _ B _ (HR.out.below ((below_alloc _ _).mono hB)) (by simp;omega)).mono ?_
   rintro e w1 ⟨rfl,hb1⟩
   rw [HE.out]
   have hc:=box_keep hb1 (heap_new (w:=w) rfl)
   obtain ⟨q0,q1,q2,q3,q4,q5,q6⟩:=box7 hc
   have hb01:=below_trans (below_alloc _ _) hb1
   clear hc
   go_wp2_with fail
   refine (HH.out _ B _ (HR.out.below (hb01.mono hB)) (Nat.le_trans hB hb01.size)).mono ?_
   rintro e w2 ⟨rfl,hb2⟩
   go_wp2
   go_ret2
   exact ⟨rfl,hb01.trans (hb2.mono hb01.size)⟩
 · have e:cellsV c rs=.tuple #[.int .i64 0,.int .i64 (checkE c rs)]:=by unfold cellsV;rw [if_neg hE]
   rw [e]
   have HC:=kH (fun w B v h1 h2=>Check_calls w B c v rs h1 h2)
   unfold Cfg.val Cfg.cells at *
   have hE':(checkE c rs != 0)=true:=by simpa using hE
   clear e hE
   go_enter Tryz.func31,Tryz.ntmps31
   go_wp2_with fail
   refine (HC.out _ B _ (HR.out.below ((below_alloc _ _).mono hB)) (by simp;omega)).mono ?_
   rintro e w1 ⟨rfl,hb1⟩
   go_wp2
   go_ret2
   exact ⟨rfl,below_trans (below_alloc _ _) hb1⟩
theorem Base_calls (w:World) (B:Nat) (c:Cfg) (v:Value) (rs:List (Int×Int)) (r:Int) (hr:ReadsR w B v rs) (hB:B≤w.heap.size) :
   Calls Tryz.prog 37 #[c.val v,.int .i64 r] w (Gives (baseV c rs r) w):=by
 have HR:=kH hr
 obtain ⟨hl,a,cp,rfl,hcp,hcm,-⟩:=hr
 by_cases hE:checkE c rs=0
 · obtain ⟨f0,f1,-,-,-,-,-,-,-,-,f2⟩:=of_decide_eq_true (check_ok hE)
   have HC:=kH (fun w B v h1 h2=>Check_calls w B c v rs h1 h2)
   have HE:=kH hE
   rcases (show (r < 0∨(0≤r∧rs.length≤r))∨(0≤r∧r < rs.length) from by omega) with h | ⟨h,h'⟩
   · have e:baseV c rs r=.tuple #[.int .i64 0,.int .i64 1]:=by unfold baseV;rw [if_pos hE,if_pos (by omega)]
     rw [e]
     unfold Cfg.val Cfg.cells at *
     clear e hE
     rcases h with h | ⟨h,h'⟩
     all_goals
       go_enter Tryz.func37,Tryz.ntmps37
       go_wp2_with fail
       refine (HC.out _ B _ (HR.out.below ((below_alloc _ _).mono hB)) (by simp;omega)).mono ?_
       rintro e w1 ⟨rfl,hb1⟩
       rw [HE.out]
       have hc:=box_keep hb1 (heap_new (w:=w) rfl)
       obtain ⟨q0,q1,q2,q3,q4,q5,q6⟩:=box7 hc
       clear hc
       go_wp2
       go_ret2
       exact ⟨rfl,below_trans (below_alloc _ _) hb1⟩
   · have e:baseV c rs r=.tuple #[.int .i64 (c.raw+sumSz rs r.toNat),.int .i64 0]:=by unfold baseV;rw [if_pos hE,if_neg (by omega)]
     rw [e]
     obtain ⟨r,rfl⟩:=Int.eq_ofNat_of_zero_le h
     rw [Int.toNat_natCast]
     have HH:=kH (fun w B v h1 h2=>ahead_calls w B c v rs r h1 h2 f2 (by omega) f0 f1)
     unfold Cfg.val Cfg.cells at *
     clear e hE
     go_enter Tryz.func37,Tryz.ntmps37
     go_wp2_with fail
     refine (HC.out _ B _ (HR.out.below ((below_alloc _ _).mono hB)) (by simp;omega)).mono ?_
     rintro e w1 ⟨rfl,hb1⟩
     rw [HE.out]
     have hc:=box_keep hb1 (heap_new (w:=w) rfl)
     obtain ⟨q0,q1,q2,q3,q4,q5,q6⟩:=box7 hc
     have hb01:=below_trans (below_alloc _ _) hb1
     clear hc
     go_wp2_with fail
     refine (HH.out _ B _ (HR.out.below (hb01.mono hB)) (Nat.le_trans hB hb01.size)).mono ?_
     rintro e w2 ⟨rfl,hb2⟩
     go_wp2
     go_ret2
     exact ⟨rfl,hb01.trans (hb2.mono hb01.size)⟩
 · have e:baseV c rs r=.tuple #[.int .i64 0,.int .i64 (checkE c rs)]:=by unfold baseV;rw [if_neg hE]
   rw [e]
   have HC:=kH (fun w B v h1 h2=>Check_calls w B c v rs h1 h2)
   unfold Cfg.val Cfg.cells at *
   have hE':(checkE c rs != 0)=true:=by simpa using hE
   clear e hE
   go_enter Tryz.func37,Tryz.ntmps37
   go_wp2_with fail
   refine (HC.out _ B _ (HR.out.below ((below_alloc _ _).mono hB)) (by simp;omega)).mono ?_
   rintro e w1 ⟨rfl,hb1⟩
   go_wp2
   go_ret2
   exact ⟨rfl,below_trans (below_alloc _ _) hb1⟩
end Plc
end Go.Proofs.YtgfogfciobmmpaaGreatDoor
