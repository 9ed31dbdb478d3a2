/- A part of the proof of the law TopTells: Core5 Iface. -/
import Derived.Test.YtgfogfciobmmpaaGreatDoorPAv
set_option linter.unusedSimpArgs false
set_option linter.unusedVariables false
set_option maxRecDepth 100000
set_option maxHeartbeats 8000000
namespace Go.Proofs.YtgfogfciobmmpaaGreatDoor
section
open Go.RowKit
variable {w0:World} {X:List Nat} {Cs:List Comp} {w:World} {x p L:Nat} {wv tv:Value} {t:TxD} {q:LogP} {F:List Nat} {m:MemD}
theorem New_tx (hS:Sep w0 X Cs w) (raw tries:Int) (ra:Option Addr) (rn rc:Nat) (c:CfgD) (hc:CfgOk c) :
   Calls Tryz.prog 55 #[cfgV raw c.ring c.writes c.stamps c.multi tries (.slice ra rn rc)] w (fun e w'=>∃ x q,e=.returned (.tuple #[ptr x,.int .i64 0])∧(q.most:Int)=c.writes∧LogP.R q [] ∧
     Sep w0 X (txC x q .nilIface (.slice none 0 0) (newTx c.ring c.writes c.stamps c.multi) Cs) w'):=by
 obtain ⟨ring,writes,stamps,multi⟩:=c
 obtain ⟨⟨h1,h2⟩,⟨h3,h4⟩,⟨h5,h6⟩⟩:=hc
 simp only at h1 h2 h3 h4 h5 h6
 obtain ⟨mw,rfl⟩:∃ k:Nat,writes=k:=⟨writes.toNat,by omega⟩
 have S0:=hS.new (.cells #[.int .i64 raw,.int .i64 ring,.int .i64 mw,.int .i64 stamps,.bool multi,.int .i64 tries,.slice ra rn rc] 24 (0,0))
 have HN:=kH (New_log S0 mw (by omega))
 have hbx:=heap_new_at (w:=w) (o:=.cells #[.int .i64 raw,.int .i64 ring,.int .i64 mw,.int .i64 stamps,.bool multi,.int .i64 tries,.slice ra rn rc] 24 (0,0)) rfl
 have hz:=heap_lt hbx
 have d1:decide (stamps < 1)=false:=by simp;omega
 have d2:decide (1099511627776 < stamps)=false:=by simp;omega
 clear hS S0
 unfold cfgV
 go_enter Tryz.func55,Tryz.ntmps55
 go_wp2_with fail
 refine HN.out.mono ?_
 rintro e w1 ⟨q,rfl,hm,hR,S1⟩
 have S2:Sep w0 X (cBlk w.heap.size (.cells #[.int .i64 raw,.int .i64 ring,.int .i64 mw,.int .i64 stamps,.bool multi,.int .i64 tries,.slice ra rn rc] 24 (0,0))::logC q zero8 [] Cs) w1:=by
   unfold logC tabC at *
   exact S1.perm (List.perm_append_comm_assoc [_,_,_,_] [_] Cs)
 have hk:=fun j=>S2.cell j
 have c1:=hk 1
 have c2:=hk 2
 have c3:=hk 3
 have c4:=hk 4
 simp only [gA,gZ,gS] at c1 c2 c3 c4
 have HS2:=kH S2.drop
 have HM:=kH hm
 have HR:=kH hR
 clear S1 S2 hk hm hR hbx
 unfold ptr
 go_wp2
 go_ret2
 refine ⟨w1.heap.size,q,rfl,by rw [HM.out],HR.out,?_⟩
 exact ((HS2.out.new (txO q.g .nilIface (.slice none 0 0) (newTx ring mw stamps multi))).nilRow 44 19).sw
theorem Phase_tx (hS:Sep w0 X (cBlk x (txO q.g wv tv t)::Cs) w) :
   Calls Tryz.prog 59 #[ptr x] w (fun e w'=>e=.returned (.int .i64 t.phase)∧Sep w0 X (cBlk x (txO q.g wv tv t)::Cs) w'):=by
 have c8:=hS.cell 8
 simp only [txA,gA,gZ,gS] at c8
 have HS:=kH hS
 clear hS
 generalize t.phase=ph at *
 unfold ptr at *
 go_enter Tryz.func59,Tryz.ntmps59
 go_wp2
 go_ret
 exact ⟨rfl,HS.out⟩
end
section
open Go.RowKit
theorem step_is_beg (v a b:Value) (w:World):(invoke (.fn (.method "Step") #[]) #[.iface 154 v,a,b]).run Tryz.prog w=.ok (.enter 269 #[v,a,b]) w:=by kernel_rfl
theorem is_beg_beg (k:Nat) (w:World):(Instr.typeAssert (.iface 154 (ptr k)) 126 154 true).run Tryz.prog w=.ok (.tuple #[ptr k,.bool true]) w:=by kernel_rfl
theorem step_is_fet (v a b:Value) (w:World):(invoke (.fn (.method "Step") #[]) #[.iface 160 v,a,b]).run Tryz.prog w=.ok (.enter 271 #[v,a,b]) w:=by kernel_rfl
theorem is_fet_beg (k:Nat) (w:World):(Instr.typeAssert (.iface 160 (ptr k)) 126 154 true).run Tryz.prog w=.ok (.tuple #[.pointer none,.bool false]) w:=by kernel_rfl
theorem is_fet_fet (k:Nat) (w:World):(Instr.typeAssert (.iface 160 (ptr k)) 126 160 true).run Tryz.prog w=.ok (.tuple #[ptr k,.bool true]) w:=by kernel_rfl
theorem step_is_com (v a b:Value) (w:World):(invoke (.fn (.method "Step") #[]) #[.iface 167 v,a,b]).run Tryz.prog w=.ok (.enter 279 #[v,a,b]) w:=by kernel_rfl
theorem is_com_beg (k:Nat) (w:World):(Instr.typeAssert (.iface 167 (ptr k)) 126 154 true).run Tryz.prog w=.ok (.tuple #[.pointer none,.bool false]) w:=by kernel_rfl
theorem is_com_fet (k:Nat) (w:World):(Instr.typeAssert (.iface 167 (ptr k)) 126 160 true).run Tryz.prog w=.ok (.tuple #[.pointer none,.bool false]) w:=by kernel_rfl
theorem is_com_com (k:Nat) (w:World):(Instr.typeAssert (.iface 167 (ptr k)) 126 167 true).run Tryz.prog w=.ok (.tuple #[ptr k,.bool true]) w:=by kernel_rfl
theorem step_is_bak (v a b:Value) (w:World):(invoke (.fn (.method "Step") #[]) #[.iface 172 v,a,b]).run Tryz.prog w=.ok (.enter 284 #[v,a,b]) w:=by kernel_rfl
theorem is_bak_beg (k:Nat) (w:World):(Instr.typeAssert (.iface 172 (ptr k)) 126 154 true).run Tryz.prog w=.ok (.tuple #[.pointer none,.bool false]) w:=by kernel_rfl
theorem is_bak_fet (k:Nat) (w:World):(Instr.typeAssert (.iface 172 (ptr k)) 126 160 true).run Tryz.prog w=.ok (.tuple #[.pointer none,.bool false]) w:=by kernel_rfl
theorem is_bak_com (k:Nat) (w:World):(Instr.typeAssert (.iface 172 (ptr k)) 126 167 true).run Tryz.prog w=.ok (.tuple #[.pointer none,.bool false]) w:=by kernel_rfl
theorem is_bak_bak (k:Nat) (w:World):(Instr.typeAssert (.iface 172 (ptr k)) 126 172 true).run Tryz.prog w=.ok (.tuple #[ptr k,.bool true]) w:=by kernel_rfl
end
end Go.Proofs.YtgfogfciobmmpaaGreatDoor
