/- The contract of the counter's New, and of the arities. -/
import Derived.Test.YtojenaghbfidlaaMach
namespace Go.Proofs.Ytojenaghbfidlaa
open Go.RowKit

def arityI (c : Int) : Int := if c = 1 then 2 else if c = 2 then 1 else -1

theorem Arity_calls (c : Int) (w : World) : Calls Try.prog 23 #[.int .i64 c] w (Just (.int .i64 (arityI c)) w) := by
  rcases (show c = 1 ∨ c = 2 ∨ (c ≠ 1 ∧ c ≠ 2) from by omega) with rfl | rfl | ⟨h1, h2⟩
  · go_enter Try.func23, Try.ntmps23
    go_wp2
    go_ret
    exact ⟨rfl, rfl⟩
  · go_enter Try.func23, Try.ntmps23
    go_wp2
    go_ret
    exact ⟨rfl, rfl⟩
  · have e : arityI c = -1 := by simp [arityI, h1, h2]
    rw [e]
    have h1' : (c == 1) = false := by simpa using h1
    have h2' : (c == 2) = false := by simpa using h2
    clear h1 h2 e
    go_enter Try.func23, Try.ntmps23
    go_wp2
    go_ret
    exact ⟨rfl, rfl⟩

theorem arity_calls (c : Int) (w : World) : Calls Try.prog 27 #[.int .i64 c] w (Just (.int .i64 (arityI c)) w) := by
  rcases (show c = 1 ∨ c = 2 ∨ (c ≠ 1 ∧ c ≠ 2) from by omega) with rfl | rfl | ⟨h1, h2⟩
  · go_enter Try.func27, Try.ntmps27
    go_wp2
    go_ret
    exact ⟨rfl, rfl⟩
  · go_enter Try.func27, Try.ntmps27
    go_wp2
    go_ret
    exact ⟨rfl, rfl⟩
  · have e : arityI c = -1 := by simp [arityI, h1, h2]
    rw [e]
    have h1' : (c == 1) = false := by simpa using h1
    have h2' : (c == 2) = false := by simpa using h2
    clear h1 h2 e
    go_enter Try.func27, Try.ntmps27
    go_wp2
    go_ret
    exact ⟨rfl, rfl⟩

def initM (base most call : Int) (xs : List Int) : MS :=
  if xs.getD 0 0 < 0 ∨ most ≤ xs.getD 0 0 then ⟨0, false, 0, 3, ⟨6, 0, 0, 1⟩⟩
  else ⟨base + xs.getD 0 0, decide (call = 1), if call = 1 then xs.getD 1 0 else 0, 0, w0⟩

/-- What New leaves where the call may be. -/
def NewPost (m : MS) (w : World) (e : Ending) (w' : World) : Prop :=
  e = .returned (.tuple #[.pointer (some ⟨w.heap.size, 0, none⟩), .int .i64 0]) ∧ Below w.heap.size w w' ∧ ∃ F, Rep w' w.heap.size m F ∧ ∀ k ∈ F, w.heap.size ≤ k

set_option maxHeartbeats 1000000 in
theorem New_no (w : World) (B : Nat) (base most call : Int) (a : Value) (xs : List Int) (ha : Reads w B a xs) (hno : takesB base most (arityI call) xs.length = false) :
    Calls Try.prog 18 #[.int .i64 base, .int .i64 most, .int .i64 call, a] w (Just (.tuple #[.pointer none, .int .i64 1]) w) := by
  obtain ⟨hxl, hxr, a, ca, rfl, hca, ha⟩ := ha
  have hno' := of_decide_eq_false hno
  clear hno ha
  rcases (show base < 0 ∨ (0 ≤ base ∧ 1024 < base) ∨ (0 ≤ base ∧ base ≤ 1024 ∧ most < 0) ∨ (0 ≤ base ∧ base ≤ 1024 ∧ 0 ≤ most ∧ 16 < most) ∨ (0 ≤ base ∧ base ≤ 1024 ∧ 0 ≤ most ∧ most ≤ 16 ∧ arityI call ≠ (xs.length : Int)) from by omega) with h | ⟨h1, h⟩ | ⟨h1, h2, h⟩ | ⟨h1, h2, h3, h⟩ | ⟨h1, h2, h3, h4, h⟩
  case' inr.inr.inr.inr => (have h' : (arityI call != (xs.length : Int)) = true := by simpa using h); clear h
  all_goals
    clear hno'
    go_enter Try.func18, Try.ntmps18
    go_wp2_with (go_at_call 27; refine (arity_calls _ _).mono ?_; rintro e w' ⟨rfl, rfl⟩)
    go_ret2
    exact ⟨rfl, rfl⟩

theorem list_two {xs : List Int} (h : xs.length = 2) : ∃ i d, xs = [i, d] := by
  match xs, h with
  | [i, d], _ => exact ⟨i, d, rfl⟩
theorem list_one {xs : List Int} (h : xs.length = 1) : ∃ i, xs = [i] := by
  match xs, h with
  | [i], _ => exact ⟨i, rfl⟩

set_option maxHeartbeats 2000000 in
theorem New_yes (w : World) (B : Nat) (base most call : Int) (a : Value) (xs : List Int) (ha : Reads w B a xs) (hB : B ≤ w.heap.size) (hyes : takesB base most (arityI call) xs.length = true) :
    Calls Try.prog 18 #[.int .i64 base, .int .i64 most, .int .i64 call, a] w (NewPost (initM base most call xs) w) := by
  obtain ⟨hxl, hxr, a, ca, rfl, hca, ha⟩ := ha
  obtain ⟨⟨hm0, hm16⟩, hb0, hb1, har⟩ := of_decide_eq_true hyes
  clear hyes
  have hcase : call = 1 ∧ xs.length = 2 ∨ (call = 2 ∧ xs.length = 1) := by
    unfold arityI at har
    split at har
    · left; omega
    · split at har
      · right; omega
      · omega
  rcases hcase with ⟨rfl, hl⟩ | ⟨rfl, hl⟩
  · obtain ⟨i, d, rfl⟩ := list_two hl
    rcases ha with h | ⟨b, off, rfl, hBb, hcell⟩
    · cases h
    have c0 := hcell 0 (by simp)
    have c1 := hcell 1 (by simp)
    simp at c0 c1
    have hri := hxr i (by simp)
    have hrd := hxr d (by simp)
    have hbs : b < w.heap.size := by omega
    have hbne : b ≠ w.heap.size := by omega
    clear hcell hl har hxr
    rcases (show i < 0 ∨ (0 ≤ i ∧ most ≤ i) ∨ (0 ≤ i ∧ i < most) from by omega) with h | ⟨h, h'⟩ | ⟨h, h'⟩
    · have hin : initM base most 1 [i, d] = ⟨0, false, 0, 3, ⟨6, 0, 0, 1⟩⟩ := if_pos (.inl (by simpa using h))
      rw [hin]; clear hin
      go_enter Try.func18, Try.ntmps18
      go_wp2_with (go_at_call 27; refine (arity_calls _ _).mono ?_; rintro e w' ⟨rfl, rfl⟩; simp only [show arityI 1 = 2 from rfl])
      go_ret2
      exact ⟨rfl, below_alloc _ _, _, ⟨rfl, Go.heap_alloc_new _ _⟩, by simp⟩
    · have hin : initM base most 1 [i, d] = ⟨0, false, 0, 3, ⟨6, 0, 0, 1⟩⟩ := if_pos (.inr (by simpa using h'))
      rw [hin]; clear hin
      go_enter Try.func18, Try.ntmps18
      go_wp2_with (go_at_call 27; refine (arity_calls _ _).mono ?_; rintro e w' ⟨rfl, rfl⟩; simp only [show arityI 1 = 2 from rfl])
      go_ret2
      exact ⟨rfl, below_alloc _ _, _, ⟨rfl, Go.heap_alloc_new _ _⟩, by simp⟩
    · have hin : initM base most 1 [i, d] = ⟨base + i, true, d, 0, w0⟩ := by
        rw [initM, if_neg (by simp; omega)]; simp
      rw [hin]; clear hin
      go_enter Try.func18, Try.ntmps18
      go_wp2_with (go_at_call 27; refine (arity_calls _ _).mono ?_; rintro e w' ⟨rfl, rfl⟩; simp only [show arityI 1 = 2 from rfl])
      go_ret2
      exact ⟨rfl, below_alloc _ _, _, ⟨rfl, Go.heap_alloc_new _ _⟩, by simp⟩
  · obtain ⟨i, rfl⟩ := list_one hl
    rcases ha with h | ⟨b, off, rfl, hBb, hcell⟩
    · cases h
    have c0 := hcell 0 (by simp)
    simp at c0
    have hri := hxr i (by simp)
    have hbs : b < w.heap.size := by omega
    have hbne : b ≠ w.heap.size := by omega
    clear hcell hl har hxr
    rcases (show i < 0 ∨ (0 ≤ i ∧ most ≤ i) ∨ (0 ≤ i ∧ i < most) from by omega) with h | ⟨h, h'⟩ | ⟨h, h'⟩
    · have hin : initM base most 2 [i] = ⟨0, false, 0, 3, ⟨6, 0, 0, 1⟩⟩ := if_pos (.inl (by simpa using h))
      rw [hin]; clear hin
      go_enter Try.func18, Try.ntmps18
      go_wp2_with (go_at_call 27; refine (arity_calls _ _).mono ?_; rintro e w' ⟨rfl, rfl⟩; simp only [show arityI 2 = 1 from rfl])
      go_ret2
      exact ⟨rfl, below_alloc _ _, _, ⟨rfl, Go.heap_alloc_new _ _⟩, by simp⟩
    · have hin : initM base most 2 [i] = ⟨0, false, 0, 3, ⟨6, 0, 0, 1⟩⟩ := if_pos (.inr (by simpa using h'))
      rw [hin]; clear hin
      go_enter Try.func18, Try.ntmps18
      go_wp2_with (go_at_call 27; refine (arity_calls _ _).mono ?_; rintro e w' ⟨rfl, rfl⟩; simp only [show arityI 2 = 1 from rfl])
      go_ret2
      exact ⟨rfl, below_alloc _ _, _, ⟨rfl, Go.heap_alloc_new _ _⟩, by simp⟩
    · have hin : initM base most 2 [i] = ⟨base + i, false, 0, 0, w0⟩ := by
        rw [initM, if_neg (by simp; omega)]; simp
      rw [hin]; clear hin
      go_enter Try.func18, Try.ntmps18
      go_wp2_with (go_at_call 27; refine (arity_calls _ _).mono ?_; rintro e w' ⟨rfl, rfl⟩; simp only [show arityI 2 = 1 from rfl])
      go_ret2
      exact ⟨rfl, below_alloc _ _, _, ⟨rfl, Go.heap_alloc_new _ _⟩, by simp⟩

end Go.Proofs.Ytojenaghbfidlaa
