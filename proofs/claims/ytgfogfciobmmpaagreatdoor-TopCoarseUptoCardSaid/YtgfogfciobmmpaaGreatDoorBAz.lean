/- A part of the proof of a law of carouseltop: Ari Ari2. -/
import Derived.Test.YtgfogfciobmmpaaGreatDoorBAv
set_option linter.unusedSimpArgs false
set_option linter.unusedVariables false
set_option maxRecDepth 100000
set_option maxHeartbeats 8000000
namespace Go.Proofs.YtgfogfciobmmpaaGreatDoor
open Go.RowKit
def cY(kind call:Int):Int :=
 if kind=1 then(if call=1 then 2 else if call=2 then 1 else -1)
 else if kind=2 then(if call=3 then 1 else if call=2 then 0 else if call=5 then 0 else -1)
 else if kind=3 then(if call=3 then 2 else if call=2 then 1 else if call=4 then 1 else if call=5 then 0 else -1)
 else(if call=1\/call=4\/call=6\/call=8 then 1 else if call=7\/call=5 then 0 else -1)
theorem Dx:Tryz.prog.cellsOf 3=1:=by kernel_rfl
theorem CZ:∃ i,Tryz.prog.info? 3=some i/\i.size=1:=by
 have h:(Tryz.prog.info? 3).map (·.size)=some 1:=by kernel_rfl
 cases hi:Tryz.prog.info? 3 with
 | none=>rw[hi]at h;simp at h
 | some i=>rw[hi]at h;exact⟨i,rfl,by simpa using h⟩
theorem ve:Tryz.prog.plainKey 3=true:=by kernel_rfl
theorem qn(w:World)(xs ys:Array Value)(f g:Nat->Int):∀ (is:List Nat),(∀ i∈is,xs[i]?=some (.int .i64 (f i))/\ys[i]?=some (.int .i64 (g i))) ->
  (Op.eqItems (9998+1) 3 1 xs ys is).run Tryz.prog w=.ok (is.all fun i=>f i == g i) w
 | [],_=>by simp[Op.eqItems]
 | i::is,h=>by
  obtain⟨h1,h2⟩:=h i List.mem_cons_self
  have ih:=qn w xs ys f g is (fun k hk=>h k (List.mem_cons_of_mem _ hk))
  have he:=run_equalIn_int w 9998 3 .i64 .i64 (f i) (g i) Tryz.underlying3
  simp only[Op.eqItems,Sem.run_bind,Nat.mul_one,run_part_plain w ve h1,run_part_plain w ve h2,Result.andThen_ok,he,List.all_cons]
  cases f i == g i
  ·simp
  ·simpa using ih
theorem gq(w:World)(a b c d:Int) :
  (Op.equalIn 10000 225 (.agg #[.int .i64 a,.int .i64 b]) (.agg #[.int .i64 c,.int .i64 d])).run Tryz.prog w=.ok (a == c&&b == d) w:=by
 obtain⟨i,hi,hs⟩:=CZ
 show(Op.equalIn (9998+1+1) 225 _ _).run Tryz.prog w=_
 rw[run_equalIn_array w (9998+1) _ _ Tryz.underlying225 hi,Dx]
 rw[qn w _ _ (fun k=>[a,b].getD k 0) (fun k=>[c,d].getD k 0)]
 ·simp[List.range,List.range.loop]
 ·intro k hk
  simp only[List.mem_range]at hk
  rcases(show k=0\/k=1 by omega)with rfl|rfl<;>exact⟨rfl,rfl⟩
theorem pO:Tryz.prog.eqGuardType Tryz.prog.depth 225=false:=by kernel_rfl
theorem arity_1(call:Int)(h0:1<=call)(h1:call<=8)(w:World):Calls Tryz.prog 101 #[.int .i64 1,.int .i64 call] w (dm (.int .i64 (cY 1 call)) w):=by
 have hE:=gq
 have hG:=pO
 rcases(show call=1\/call=2\/call=3\/call=4\/call=5\/call=6\/call=7\/call=8 by omega)with rfl|rfl|rfl|rfl|rfl|rfl|rfl|rfl
 all_goals
  go_enter Tryz.func101,Tryz.ntmps101
  go_wp2
  go_ret
  exact⟨rfl,rfl⟩
theorem arity_2(call:Int)(h0:1<=call)(h1:call<=8)(w:World):Calls Tryz.prog 101 #[.int .i64 2,.int .i64 call] w (dm (.int .i64 (cY 2 call)) w):=by
 have hE:=gq
 have hG:=pO
 rcases(show call=1\/call=2\/call=3\/call=4\/call=5\/call=6\/call=7\/call=8 by omega)with rfl|rfl|rfl|rfl|rfl|rfl|rfl|rfl
 all_goals
  go_enter Tryz.func101,Tryz.ntmps101
  go_wp2
  go_ret
  exact⟨rfl,rfl⟩
theorem arity_3(call:Int)(h0:1<=call)(h1:call<=8)(w:World):Calls Tryz.prog 101 #[.int .i64 3,.int .i64 call] w (dm (.int .i64 (cY 3 call)) w):=by
 have hE:=gq
 have hG:=pO
 rcases(show call=1\/call=2\/call=3\/call=4\/call=5\/call=6\/call=7\/call=8 by omega)with rfl|rfl|rfl|rfl|rfl|rfl|rfl|rfl
 all_goals
  go_enter Tryz.func101,Tryz.ntmps101
  go_wp2
  go_ret
  exact⟨rfl,rfl⟩
theorem arity_4(call:Int)(h0:1<=call)(h1:call<=8)(w:World):Calls Tryz.prog 101 #[.int .i64 4,.int .i64 call] w (dm (.int .i64 (cY 4 call)) w):=by
 have hE:=gq
 have hG:=pO
 rcases(show call=1\/call=2\/call=3\/call=4\/call=5\/call=6\/call=7\/call=8 by omega)with rfl|rfl|rfl|rfl|rfl|rfl|rfl|rfl
 all_goals
  go_enter Tryz.func101,Tryz.ntmps101
  go_wp2
  go_ret
  exact⟨rfl,rfl⟩
theorem yM{kind call:Int}(hk:1<=kind/\kind<=4)(hc:1<=call/\call<=8)(w:World):Calls Tryz.prog 101 #[.int .i64 kind,.int .i64 call] w (dm (.int .i64 (cY kind call)) w):=by
 rcases(show kind=1\/kind=2\/kind=3\/kind=4 by omega)with rfl|rfl|rfl|rfl
 ·exact arity_1 call hc.1 hc.2 w
 ·exact arity_2 call hc.1 hc.2 w
 ·exact arity_3 call hc.1 hc.2 w
 ·exact arity_4 call hc.1 hc.2 w
end Go.Proofs.YtgfogfciobmmpaaGreatDoor
