/- The contract of the queue's New, and of the arities. -/
import Derived.Test.YtdacadhiogikdaaMachN16
namespace Go.Proofs.Ytdacadhiogikdaa
open Go.RowKit

def arityI (c : Int) : Int := if c = 3 then 1 else if c = 2 ∨ c = 5 then 0 else -1

theorem Arity_calls (c : Int) (w : World) : Calls Try.prog 23 #[.int .i64 c] w (Just (.int .i64 (arityI c)) w) := by
  rcases (show c = 3 ∨ c = 2 ∨ c = 5 ∨ (c ≠ 3 ∧ c ≠ 2 ∧ c ≠ 5) from by omega) with rfl | rfl | rfl | ⟨h1, h2, h3⟩
  · go_enter Try.func23, Try.ntmps23
    go_wp2
    go_ret
    exact ⟨rfl, rfl⟩
  · go_enter Try.func23, Try.ntmps23
    go_wp2
    go_ret
    exact ⟨rfl, rfl⟩
  · go_enter Try.func23, Try.ntmps23
    go_wp2
    go_ret
    exact ⟨rfl, rfl⟩
  · have e : arityI c = -1 := by simp [arityI, h1, h2, h3]
    rw [e]
    have h1' : (c == 3) = false := by simpa using h1
    have h2' : (c == 2) = false := by simpa using h2
    have h3' : (c == 5) = false := by simpa using h3
    clear h1 h2 h3 e
    go_enter Try.func23, Try.ntmps23
    go_wp2
    go_ret
    exact ⟨rfl, rfl⟩

theorem arity_calls (c : Int) (w : World) : Calls Try.prog 28 #[.int .i64 c] w (Just (.int .i64 (arityI c)) w) := by
  rcases (show c = 3 ∨ c = 2 ∨ c = 5 ∨ (c ≠ 3 ∧ c ≠ 2 ∧ c ≠ 5) from by omega) with rfl | rfl | rfl | ⟨h1, h2, h3⟩
  · go_enter Try.func28, Try.ntmps28
    go_wp2
    go_ret
    exact ⟨rfl, rfl⟩
  · go_enter Try.func28, Try.ntmps28
    go_wp2
    go_ret
    exact ⟨rfl, rfl⟩
  · go_enter Try.func28, Try.ntmps28
    go_wp2
    go_ret
    exact ⟨rfl, rfl⟩
  · have e : arityI c = -1 := by simp [arityI, h1, h2, h3]
    rw [e]
    have h1' : (c == 3) = false := by simpa using h1
    have h2' : (c == 2) = false := by simpa using h2
    have h3' : (c == 5) = false := by simpa using h3
    clear h1 h2 h3 e
    go_enter Try.func28, Try.ntmps28
    go_wp2
    go_ret
    exact ⟨rfl, rfl⟩

def initM (base most call : Int) (xs : List Int) : MS := ⟨⟨base, most, call, xs.getD 0 0, 0, 0⟩, 0, w0⟩

/-- What New leaves where the call may be. -/
def NewPost (m : MS) (w : World) (e : Ending) (w' : World) : Prop :=
  e = .returned (.tuple #[.pointer (some ⟨w.heap.size, 0, none⟩), .int .i64 0]) ∧ Below w.heap.size w w' ∧ ∃ F, Rep w' w.heap.size m F ∧ ∀ k ∈ F, w.heap.size ≤ k

set_option maxHeartbeats 1000000 in
theorem New_no (w : World) (B : Nat) (base most call : Int) (a : Value) (xs : List Int) (ha : Reads w B a xs) (hno : takesB base most (arityI call) xs.length = false) :
    Calls Try.prog 18 #[.int .i64 base, .int .i64 most, .int .i64 call, a] w (Just (.tuple #[.pointer none, .int .i64 1]) w) := by
  obtain ⟨hxl, hxr, a, ca, rfl, hca, ha⟩ := ha
  have hno' := of_decide_eq_false hno
  clear hno ha
  rcases (show base < 0 ∨ (0 ≤ base ∧ 1024 < base) ∨ (0 ≤ base ∧ base ≤ 1024 ∧ most < 0) ∨ (0 ≤ base ∧ base ≤ 1024 ∧ 0 ≤ most ∧ 16 < most) ∨ (0 ≤ base ∧ base ≤ 1024 ∧ 0 ≤ most ∧ most ≤ 16 ∧ arityI call ≠ (xs.length : Int)) from by omega) with h | ⟨h1, h⟩ | ⟨h1, h2, h⟩ | ⟨h1, h2, h3, h⟩ | ⟨h1, h2, h3, h4, h⟩
  case' inr.inr.inr.inr => (have h' : (arityI call != (xs.length : Int)) = true := by simpa using h); clear h
  all_goals
    clear hno'
    go_enter Try.func18, Try.ntmps18
    go_wp2_with (go_at_call 28; refine (arity_calls _ _).mono ?_; rintro e w' ⟨rfl, rfl⟩)
    go_ret2
    exact ⟨rfl, rfl⟩

theorem list_one {xs : List Int} (h : xs.length = 1) : ∃ i, xs = [i] := by
  match xs, h with
  | [i], _ => exact ⟨i, rfl⟩

theorem arity_cases {call : Int} {n : Nat} (h : arityI call = (n : Int)) : call = 3 ∧ n = 1 ∨ call = 2 ∧ n = 0 ∨ call = 5 ∧ n = 0 := by
  unfold arityI at h
  split at h
  · left; omega
  · split at h
    · rename_i h1
      rcases h1 with h1 | h1
      · right; left; omega
      · right; right; omega
    · omega

set_option maxHeartbeats 2000000 in
theorem New_yes (w : World) (B : Nat) (base most call : Int) (a : Value) (xs : List Int) (ha : Reads w B a xs) (hB : B ≤ w.heap.size) (hyes : takesB base most (arityI call) xs.length = true) :
    Calls Try.prog 18 #[.int .i64 base, .int .i64 most, .int .i64 call, a] w (NewPost (initM base most call xs) w) := by
  obtain ⟨hxl, hxr, a, ca, rfl, hca, ha⟩ := ha
  obtain ⟨⟨hm0, hm16⟩, hb0, hb1, har⟩ := of_decide_eq_true hyes
  clear hyes
  have hok : Hid (QS.ok ⟨base, most, call, xs.getD 0 0, 0, 0⟩) := ⟨hb0, hb1, hm0, hm16⟩
  rcases arity_cases har with ⟨rfl, hl⟩ | ⟨rfl, hl⟩ | ⟨rfl, hl⟩
  · obtain ⟨i, rfl⟩ := list_one hl
    rcases ha with h | ⟨b, off, rfl, hBb, hcell⟩
    · cases h
    have c0 := hcell 0 (by simp)
    simp at c0
    have hbs : b < w.heap.size := by omega
    have hbne : b ≠ w.heap.size := by omega
    clear hcell hl har hxr
    go_enter Try.func18, Try.ntmps18
    go_wp2_with (go_at_call 28; refine (arity_calls _ _).mono ?_; rintro e w' ⟨rfl, rfl⟩; simp only [show arityI 3 = 1 from rfl])
    go_ret2
    exact ⟨rfl, below_alloc _ _, _, ⟨hok.out, (fun e => by cases e), .inl ⟨(show (0 : Nat) < 8 by decide), rfl, Go.heap_alloc_new _ _⟩⟩, by simp⟩
  all_goals
    obtain rfl : xs = [] := List.eq_nil_of_length_eq_zero hl
    clear ha har hxr hl
    go_enter Try.func18, Try.ntmps18
    go_wp2_with (go_at_call 28; refine (arity_calls _ _).mono ?_; rintro e w' ⟨rfl, rfl⟩; simp only [show arityI 2 = 0 from rfl, show arityI 5 = 0 from rfl])
    go_ret2
    exact ⟨rfl, below_alloc _ _, _, ⟨hok.out, (fun e => by cases e), .inl ⟨(show (0 : Nat) < 8 by decide), rfl, Go.heap_alloc_new _ _⟩⟩, by simp⟩

end Go.Proofs.Ytdacadhiogikdaa
