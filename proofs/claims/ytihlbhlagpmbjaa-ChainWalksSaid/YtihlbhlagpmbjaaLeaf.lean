/- Contracts of the leaf functions of layer 15's reference: Right, Takes, End, Read, Put. -/
import Derived.Test.YtihlbhlagpmbjaaProg
import Derived.Test.YtihlbhlagpmbjaaBase
import Derived.KernelRfl
namespace Go.Proofs.Ytihlbhlagpmbjaa
open Go.RowKit

theorem infoWant : (Try.prog.info? 44).map (·.size) = some 4 := by kernel_rfl

def rightB (a : Int) : Bool := decide (0 ≤ a ∧ a ≤ 16)
theorem rightB_t {a : Int} (h1 : 0 ≤ a) (h2 : a ≤ 16) : rightB a = true := decide_eq_true ⟨h1, h2⟩
theorem rightB_f {a : Int} (h : a < 0 ∨ 16 < a) : rightB a = false := decide_eq_false (by omega)

theorem Right_calls (a : Int) (w : World) : Calls Try.prog 27 #[.int .i64 a] w (Just (.bool (rightB a)) w) := by
  rcases (show a < 0 ∨ (0 ≤ a ∧ 16 < a) ∨ (0 ≤ a ∧ a ≤ 16) from by omega) with h | ⟨h, h1⟩ | ⟨h, h1⟩
  · rw [rightB_f (.inl h)]
    have h2 : decide (0 ≤ a) = false := by simp; omega
    clear h
    go_enter Try.func27, Try.ntmps27
    go_wp2
    go_ret
    exact ⟨rfl, rfl⟩
  · rw [rightB_f (.inr h1)]
    have h2 : decide (a ≤ 16) = false := by simp; omega
    clear h1
    go_enter Try.func27, Try.ntmps27
    go_wp2
    go_ret
    exact ⟨rfl, rfl⟩
  · rw [rightB_t h h1]
    go_enter Try.func27, Try.ntmps27
    go_wp2
    go_ret
    exact ⟨rfl, rfl⟩

theorem End_calls (v c : Int) (w : World) : Calls Try.prog 78 #[.int .i64 v, .int .i64 c] w (Gives (endS v c).val w) := by
  unfold endS WantS.val
  by_cases h : c = 0
  · subst h
    go_enter Try.func78, Try.ntmps78
    go_wp2
    refine bodyPost_ret (results_cell_row rfl _ _ _ _ _ _ _ rfl (heap_alloc_new _ _) Try.underlying44 rfl infoWant) rfl ⟨rfl, ?_⟩
    exact below_alloc _ _
  · have h' : (c != 0) = true := by simpa using h
    have hr : (if c = 0 then v else 0) = 0 := if_neg h
    rw [hr]
    clear hr h
    go_enter Try.func78, Try.ntmps78
    go_wp2
    refine bodyPost_ret (results_cell_row rfl _ _ _ _ _ _ _ rfl (heap_alloc_new _ _) Try.underlying44 rfl infoWant) rfl ⟨rfl, ?_⟩
    exact below_alloc _ _

theorem Read_calls (c : Int) (w : World) : Calls Try.prog 74 #[.int .i64 c] w (Gives (readS c).val w) := by
  unfold readS WantS.val
  go_enter Try.func74, Try.ntmps74
  go_wp2
  refine bodyPost_ret (results_cell_row rfl _ _ _ _ _ _ _ rfl (heap_alloc_new _ _) Try.underlying44 rfl infoWant) rfl ⟨rfl, ?_⟩
  exact below_alloc _ _

theorem Put_calls (c v : Int) (w : World) : Calls Try.prog 80 #[.int .i64 c, .int .i64 v] w (Gives (putS c v).val w) := by
  unfold putS WantS.val
  go_enter Try.func80, Try.ntmps80
  go_wp2
  refine bodyPost_ret (results_cell_row rfl _ _ _ _ _ _ _ rfl (heap_alloc_new _ _) Try.underlying44 rfl infoWant) rfl ⟨rfl, ?_⟩
  exact below_alloc _ _

/-- May a call be, by its capacity, its base, its arity and the number of its arguments? -/
def takesB (base most want args : Int) : Bool := decide ((0 ≤ most ∧ most ≤ 16) ∧ 0 ≤ base ∧ base ≤ 1024 ∧ want = args)
theorem takesB_t {base most want args : Int} (h1 : 0 ≤ most) (h2 : most ≤ 16) (h3 : 0 ≤ base) (h4 : base ≤ 1024) (h5 : want = args) : takesB base most want args = true :=
  decide_eq_true ⟨⟨h1, h2⟩, h3, h4, h5⟩
theorem takesB_f {base most want args : Int} (h : (most < 0 ∨ 16 < most) ∨ base < 0 ∨ 1024 < base ∨ want ≠ args) : takesB base most want args = false := decide_eq_false (by omega)

theorem Takes_calls (base most want args : Int) (w : World) :
    Calls Try.prog 45 #[.int .i64 base, .int .i64 most, .int .i64 want, .int .i64 args] w (Just (.bool (takesB base most want args)) w) := by
  by_cases hm : rightB most = true
  · have hm' : 0 ≤ most ∧ most ≤ 16 := of_decide_eq_true hm
    rcases (show base < 0 ∨ (0 ≤ base ∧ 1024 < base) ∨ (0 ≤ base ∧ base ≤ 1024) from by omega) with h | ⟨h, h1⟩ | ⟨h, h1⟩
    · rw [takesB_f (.inr (.inl h))]
      have h2 : decide (0 ≤ base) = false := by simp; omega
      clear h hm'
      go_enter Try.func45, Try.ntmps45
      go_wp2_with (go_at_call 27; refine (Right_calls _ _).mono ?_; rintro e w' ⟨rfl, rfl⟩)
      go_ret
      exact ⟨rfl, rfl⟩
    · rw [takesB_f (.inr (.inr (.inl h1)))]
      have h2 : decide (base ≤ 1024) = false := by simp; omega
      clear h1 hm'
      go_enter Try.func45, Try.ntmps45
      go_wp2_with (go_at_call 27; refine (Right_calls _ _).mono ?_; rintro e w' ⟨rfl, rfl⟩)
      go_ret
      exact ⟨rfl, rfl⟩
    · have e : takesB base most want args = (want == args) := by
        by_cases hw : want = args
        · rw [takesB_t hm'.1 hm'.2 h h1 hw]; simp [hw]
        · rw [takesB_f (.inr (.inr (.inr hw)))]; simp [hw]
      rw [e]
      clear e hm'
      go_enter Try.func45, Try.ntmps45
      go_wp2_with (go_at_call 27; refine (Right_calls _ _).mono ?_; rintro e w' ⟨rfl, rfl⟩)
      go_ret
      exact ⟨rfl, rfl⟩
  · have hm1 : rightB most = false := by simpa using hm
    have hm' : most < 0 ∨ 16 < most := by have := of_decide_eq_false hm1; omega
    rw [takesB_f (.inl hm')]
    clear hm hm'
    go_enter Try.func45, Try.ntmps45
    go_wp2_with (go_at_call 27; refine (Right_calls _ _).mono ?_; rintro e w' ⟨rfl, rfl⟩)
    go_ret
    exact ⟨rfl, rfl⟩

end Go.Proofs.Ytihlbhlagpmbjaa
