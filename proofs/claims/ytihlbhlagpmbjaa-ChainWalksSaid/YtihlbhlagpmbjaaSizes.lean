/- How many cells: the two Sizes, and the walk of the law Sizes. -/
import Derived.Test.YtihlbhlagpmbjaaLeaf
import Derived.Test.YtihlbhlagpmbjaaFrame
namespace Go.Proofs.Ytihlbhlagpmbjaa
open Go.RowKit

def sizeI (a : Int) : Int := if 0 ≤ a ∧ a ≤ 16 then (2 * a + 3) else 0
theorem sizeI_in {a : Int} (h1 : 0 ≤ a) (h2 : a ≤ 16) : sizeI a = (2 * a + 3) := if_pos ⟨h1, h2⟩
theorem sizeI_out {a : Int} (h : a < 0 ∨ 16 < a) : sizeI a = 0 := if_neg (by omega)

theorem Size_calls (a : Int) (w : World) : Calls Try.prog 12 #[.int .i64 a] w (Just (.int .i64 (sizeI a)) w) := by
  rcases (show a < 0 ∨ (0 ≤ a ∧ 16 < a) ∨ (0 ≤ a ∧ a ≤ 16) from by omega) with h | ⟨h, h1⟩ | ⟨h, h1⟩
  · rw [sizeI_out (.inl h)]
    go_enter Try.func12, Try.ntmps12
    go_wp2
    go_ret
    exact ⟨rfl, rfl⟩
  · rw [sizeI_out (.inr h1)]
    go_enter Try.func12, Try.ntmps12
    go_wp2
    go_ret
    exact ⟨rfl, rfl⟩
  · rw [sizeI_in h h1]
    go_enter Try.func12, Try.ntmps12
    go_wp2
    go_ret
    exact ⟨rfl, rfl⟩

theorem RefSize_calls (a : Int) (w : World) : Calls Try.prog 13 #[.int .i64 a] w (Just (.int .i64 (sizeI a)) w) := by
  by_cases hr : rightB a = true
  · have h := of_decide_eq_true hr
    rw [sizeI_in h.1 h.2]
    obtain ⟨h1, h2⟩ := h
    go_enter Try.func13, Try.ntmps13
    go_wp2_with (go_at_call 27; refine (Right_calls _ _).mono ?_; rintro e w' ⟨rfl, rfl⟩)
    go_ret
    exact ⟨rfl, rfl⟩
  · have hr' : rightB a = false := by simpa using hr
    have h := of_decide_eq_false hr'
    rw [sizeI_out (by omega)]
    clear hr h
    go_enter Try.func13, Try.ntmps13
    go_wp2_with (go_at_call 27; refine (Right_calls _ _).mono ?_; rintro e w' ⟨rfl, rfl⟩)
    go_ret
    exact ⟨rfl, rfl⟩

/-- What a law leaves. -/
def True_ (w : World) (e : Ending) (w' : World) : Prop := e = .returned (.bool true) ∧ Below w.heap.size w w'

theorem Sizes_walk (w : World) (a : Int) : Calls Try.prog 3 #[.int .i64 a] w (True_ w) := by
  go_enter Try.func3, Try.ntmps3
  go_wp2_with fail
  refine (Size_calls _ _).mono ?_
  rintro e w' ⟨rfl, rfl⟩
  go_wp2_with fail
  refine (RefSize_calls _ _).mono ?_
  rintro e w' ⟨rfl, rfl⟩
  go_wp2
  go_ret
  refine ⟨?_, Below.refl _ _⟩
  simp

end Go.Proofs.Ytihlbhlagpmbjaa
