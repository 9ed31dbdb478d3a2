/- A part of the proof of the law TopTells: Ari. -/
import Derived.Test.YtgfogfciobmmpaaGreatDoorPBe
set_option linter.unusedSimpArgs false
set_option linter.unusedVariables false
set_option maxRecDepth 100000
set_option maxHeartbeats 8000000
namespace Go.Proofs.YtgfogfciobmmpaaGreatDoor
section
open Go.RowKit
def arityP (kind call:Int):Int :=
 if kind=1 then (if call=1 then 2 else if call=2 then 1 else -1)
 else if kind=2 then (if call=3 then 1 else if call=2 then 0 else if call=5 then 0 else -1)
 else if kind=3 then (if call=3 then 2 else if call=2 then 1 else if call=4 then 1 else if call=5 then 0 else -1)
 else (if call=1∨call=4∨call=6∨call=8 then 1 else if call=7∨call=5 then 0 else -1)
theorem cellsInt:Tryz.prog.cellsOf 3=1:=by kernel_rfl
theorem infoInt1:∃ i,Tryz.prog.info? 3=some i∧i.size=1:=by
 have h:(Tryz.prog.info? 3).map (·.size)=some 1:=by kernel_rfl
 cases hi:Tryz.prog.info? 3 with
 | none=>rw [hi] at h;simp at h
 | some i=>rw [hi] at h;exact ⟨i,rfl,by simpa using h⟩
theorem plainInt:Tryz.prog.plainKey 3=true:=by kernel_rfl
theorem run_items2 (w:World) (xs ys:Array Value) (f g:Nat→Int):∀ (is:List Nat),(∀ i∈is,xs[i]?=some (.int .i64 (f i))∧ys[i]?=some (.int .i64 (g i))) →
   (Op.eqItems (9998+1) 3 1 xs ys is).run Tryz.prog w=.ok (is.all fun i=>f i == g i) w
 | [],_=>by simp [Op.eqItems]
 | i::is,h=>by
   obtain ⟨h1,h2⟩:=h i List.mem_cons_self
   have ih:=run_items2 w xs ys f g is (fun k hk=>h k (List.mem_cons_of_mem _ hk))
   have he:=run_equalIn_int w 9998 3 .i64 .i64 (f i) (g i) Tryz.underlying3
   simp only [Op.eqItems,Sem.run_bind,Nat.mul_one,run_part_plain w plainInt h1,run_part_plain w plainInt h2,Result.andThen_ok,he,List.all_cons]
   cases f i == g i
   · simp
   · simpa using ih
theorem run_equal_two (w:World) (a b c d:Int) :
   (Op.equalIn 10000 225 (.agg #[.int .i64 a,.int .i64 b]) (.agg #[.int .i64 c,.int .i64 d])).run Tryz.prog w=.ok (a == c && b == d) w:=by
 obtain ⟨i,hi,hs⟩:=infoInt1
 show (Op.equalIn (9998+1+1) 225 _ _).run Tryz.prog w=_
 rw [run_equalIn_array w (9998+1) _ _ Tryz.underlying225 hi,cellsInt]
 rw [run_items2 w _ _ (fun k=>[a,b].getD k 0) (fun k=>[c,d].getD k 0)]
 · simp [List.range,List.range.loop]
 · intro k hk
   simp only [List.mem_range] at hk
   rcases (show k=0∨k=1 by omega) with rfl | rfl <;> exact ⟨rfl,rfl⟩
theorem eqg_two:Tryz.prog.eqGuardType Tryz.prog.depth 225=false:=by kernel_rfl
theorem arity_1 (call:Int) (h0:1≤call) (h1:call≤8) (w:World):Calls Tryz.prog 101 #[.int .i64 1,.int .i64 call] w (Just (.int .i64 (arityP 1 call)) w):=by
 have hE:=run_equal_two
 have hG:=eqg_two
 rcases (show call=1∨call=2∨call=3∨call=4∨call=5∨call=6∨call=7∨call=8 by omega) with rfl | rfl | rfl | rfl | rfl | rfl | rfl | rfl
 all_goals
   go_enter Tryz.func101,Tryz.ntmps101
   go_wp2
   go_ret
   exact ⟨rfl,rfl⟩
theorem arity_2 (call:Int) (h0:1≤call) (h1:call≤8) (w:World):Calls Tryz.prog 101 #[.int .i64 2,.int .i64 call] w (Just (.int .i64 (arityP 2 call)) w):=by
 have hE:=run_equal_two
 have hG:=eqg_two
 rcases (show call=1∨call=2∨call=3∨call=4∨call=5∨call=6∨call=7∨call=8 by omega) with rfl | rfl | rfl | rfl | rfl | rfl | rfl | rfl
 all_goals
   go_enter Tryz.func101,Tryz.ntmps101
   go_wp2
   go_ret
   exact ⟨rfl,rfl⟩
end
end Go.Proofs.YtgfogfciobmmpaaGreatDoor
