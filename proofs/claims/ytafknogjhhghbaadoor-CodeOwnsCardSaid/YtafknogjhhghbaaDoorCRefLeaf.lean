/- Contracts of the reference's Width and Range. -/
import Derived.Test.YtafknogjhhghbaaDoorCLeaf
namespace Go.Proofs.YtafknogjhhghbaaDoor
open Go.RowKit

theorem codes {c : Nat} (h : c < 41) : c = 0 ∨ c = 1 ∨ c = 2 ∨ c = 3 ∨ c = 4 ∨ c = 5 ∨ c = 6 ∨ c = 7 ∨ c = 8 ∨ c = 9 ∨ c = 10 ∨ c = 11 ∨ c = 12 ∨ c = 13 ∨ c = 14 ∨ c = 15 ∨ c = 16 ∨ c = 17 ∨ c = 18 ∨ c = 19 ∨ c = 20 ∨ c = 21 ∨ c = 22 ∨ c = 23 ∨ c = 24 ∨ c = 25 ∨ c = 26 ∨ c = 27 ∨ c = 28 ∨ c = 29 ∨ c = 30 ∨ c = 31 ∨ c = 32 ∨ c = 33 ∨ c = 34 ∨ c = 35 ∨ c = 36 ∨ c = 37 ∨ c = 38 ∨ c = 39 ∨ c = 40 := by omega

set_option maxHeartbeats 4000000 in
theorem Width_calls (c : Nat) (h : c < 41) (w : World) : Calls Tryd.prog 20 #[.int .i64 (c : Int)] w (Just (.int .i64 (widthN (shapeN c) : Int)) w) := by
  rcases codes h with rfl | rfl | rfl | rfl | rfl | rfl | rfl | rfl | rfl | rfl | rfl | rfl | rfl | rfl | rfl | rfl | rfl | rfl | rfl | rfl | rfl | rfl | rfl | rfl | rfl | rfl | rfl | rfl | rfl | rfl | rfl | rfl | rfl | rfl | rfl | rfl | rfl | rfl | rfl | rfl | rfl
  all_goals
    clear h
    go_enter Tryd.func20, Tryd.ntmps20
    go_wp2
    go_ret
    exact ⟨rfl, rfl⟩

theorem Width_k (c : Nat) (h : c < 41) (k : Int) (hk : (widthN (shapeN c) : Int) = k) (w : World) : Calls Tryd.prog 20 #[.int .i64 (c : Int)] w (Just (.int .i64 k) w) := hk ▸ Width_calls c h w

theorem Width_no (c : Int) (h : c < 0 ∨ 40 < c) (w : World) : Calls Tryd.prog 20 #[.int .i64 c] w (Just (.int .i64 (-1)) w) := by
  rcases (show c < 0 ∨ (0 ≤ c ∧ 40 < c) from by omega) with h1 | ⟨h1, h2⟩
  all_goals
    clear h
    go_enter Tryd.func20, Tryd.ntmps20
    go_wp2
    go_ret
    exact ⟨rfl, rfl⟩

set_option maxHeartbeats 8000000 in
theorem Range_calls (c : Nat) (h : c < 41) (w : World) : Calls Tryd.prog 21 #[.int .i64 (c : Int)] w (Just (.tuple #[.int .i64 (loI (shapeN c)), .int .i64 (hiI (shapeN c))]) w) := by
  have HW := Lib.hid (fun k hk w => Width_k c h k hk w)
  rcases codes h with rfl | rfl | rfl | rfl | rfl | rfl | rfl | rfl | rfl | rfl | rfl | rfl | rfl | rfl | rfl | rfl | rfl | rfl | rfl | rfl | rfl | rfl | rfl | rfl | rfl | rfl | rfl | rfl | rfl | rfl | rfl | rfl | rfl | rfl | rfl | rfl | rfl | rfl | rfl | rfl | rfl
  all_goals
    clear h
    go_enter Tryd.func21, Tryd.ntmps21
    go_wp2_with (go_at_call 20; (first | refine (HW.out 0 rfl _).mono ?_ | refine (HW.out 1 rfl _).mono ?_); rintro e w' ⟨rfl, rfl⟩)
    go_ret2
    exact ⟨rfl, rfl⟩

end Go.Proofs.YtafknogjhhghbaaDoor
