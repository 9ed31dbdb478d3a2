/- A part of the proof of the law TopTells: Ari2. -/
import Derived.Test.YtgfogfciobmmpaaGreatDoorPBi
set_option linter.unusedSimpArgs false
set_option linter.unusedVariables false
set_option maxRecDepth 100000
set_option maxHeartbeats 8000000
namespace Go.Proofs.YtgfogfciobmmpaaGreatDoor
section
open Go.RowKit
theorem arity_3 (call:Int) (h0:1≤call) (h1:call≤8) (w:World):Calls Tryz.prog 101 #[.int .i64 3,.int .i64 call] w (Just (.int .i64 (arityP 3 call)) w):=by
 have hE:=run_equal_two
 have hG:=eqg_two
 rcases (show call=1∨call=2∨call=3∨call=4∨call=5∨call=6∨call=7∨call=8 by omega) with rfl | rfl | rfl | rfl | rfl | rfl | rfl | rfl
 all_goals
   go_enter Tryz.func101,Tryz.ntmps101
   go_wp2
   go_ret
   exact ⟨rfl,rfl⟩
theorem arity_4 (call:Int) (h0:1≤call) (h1:call≤8) (w:World):Calls Tryz.prog 101 #[.int .i64 4,.int .i64 call] w (Just (.int .i64 (arityP 4 call)) w):=by
 have hE:=run_equal_two
 have hG:=eqg_two
 rcases (show call=1∨call=2∨call=3∨call=4∨call=5∨call=6∨call=7∨call=8 by omega) with rfl | rfl | rfl | rfl | rfl | rfl | rfl | rfl
 all_goals
   go_enter Tryz.func101,Tryz.ntmps101
   go_wp2
   go_ret
   exact ⟨rfl,rfl⟩
theorem arity_prog {kind call:Int} (hk:1≤kind∧kind≤4) (hc:1≤call∧call≤8) (w:World):Calls Tryz.prog 101 #[.int .i64 kind,.int .i64 call] w (Just (.int .i64 (arityP kind call)) w):=by
 rcases (show kind=1∨kind=2∨kind=3∨kind=4 by omega) with rfl | rfl | rfl | rfl
 · exact arity_1 call hc.1 hc.2 w
 · exact arity_2 call hc.1 hc.2 w
 · exact arity_3 call hc.1 hc.2 w
 · exact arity_4 call hc.1 hc.2 w
end
end Go.Proofs.YtgfogfciobmmpaaGreatDoor
