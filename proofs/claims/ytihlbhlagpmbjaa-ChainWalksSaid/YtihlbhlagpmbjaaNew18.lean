/- The contract of the chain's New, and of the arities. -/
import Derived.Test.YtihlbhlagpmbjaaMachN18
namespace Go.Proofs.Ytihlbhlagpmbjaa
open Go.RowKit

def arityI (c : Int) : Int := if c = 1 ∨ c = 4 ∨ c = 6 ∨ c = 8 then 1 else if c = 7 ∨ c = 5 then 0 else -1

theorem call_cases (c : Int) : c = 1 ∨ c = 4 ∨ c = 6 ∨ c = 8 ∨ c = 7 ∨ c = 5 ∨ (c ≠ 1 ∧ c ≠ 4 ∧ c ≠ 6 ∧ c ≠ 8 ∧ c ≠ 7 ∧ c ≠ 5) := by omega
theorem arity_none {c : Int} (h : c ≠ 1 ∧ c ≠ 4 ∧ c ≠ 6 ∧ c ≠ 8 ∧ c ≠ 7 ∧ c ≠ 5) : arityI c = -1 := by
  unfold arityI
  rw [if_neg (by omega), if_neg (by omega)]

set_option maxHeartbeats 1000000 in
theorem Arity_calls (c : Int) (w : World) : Calls Try.prog 26 #[.int .i64 c] w (Just (.int .i64 (arityI c)) w) := by
  rcases call_cases c with rfl | rfl | rfl | rfl | rfl | rfl | h
  case' inr.inr.inr.inr.inr.inr =>
    rw [arity_none h]
    obtain ⟨h1, h2, h3, h4, h5, h6⟩ := h
    have k1 : (c == 1) = false := by simpa using h1
    have k2 : (c == 4) = false := by simpa using h2
    have k3 : (c == 6) = false := by simpa using h3
    have k4 : (c == 8) = false := by simpa using h4
    have k5 : (c == 7) = false := by simpa using h5
    have k6 : (c == 5) = false := by simpa using h6
    clear h1 h2 h3 h4 h5 h6
  all_goals
    go_enter Try.func26, Try.ntmps26
    go_wp2
    go_ret
    exact ⟨rfl, rfl⟩

set_option maxHeartbeats 1000000 in
theorem arity_calls (c : Int) (w : World) : Calls Try.prog 32 #[.int .i64 c] w (Just (.int .i64 (arityI c)) w) := by
  rcases call_cases c with rfl | rfl | rfl | rfl | rfl | rfl | h
  case' inr.inr.inr.inr.inr.inr =>
    rw [arity_none h]
    obtain ⟨h1, h2, h3, h4, h5, h6⟩ := h
    have k1 : (c == 1) = false := by simpa using h1
    have k2 : (c == 4) = false := by simpa using h2
    have k3 : (c == 6) = false := by simpa using h3
    have k4 : (c == 8) = false := by simpa using h4
    have k5 : (c == 7) = false := by simpa using h5
    have k6 : (c == 5) = false := by simpa using h6
    clear h1 h2 h3 h4 h5 h6
  all_goals
    go_enter Try.func32, Try.ntmps32
    go_wp2
    go_ret
    exact ⟨rfl, rfl⟩

def initM (base most call : Int) (xs : List Int) : MS := ⟨base, most, if call = 7 then .least else if call = 5 then .len else .start call (xs.getD 0 0)⟩

/-- What New leaves where the call may be. -/
def NewPost (m : MS) (w : World) (e : Ending) (w' : World) : Prop :=
  ∃ p, w.heap.size ≤ p ∧ e = .returned (.tuple #[.pointer (some ⟨p, 0, none⟩), .int .i64 0]) ∧ Below w.heap.size w w' ∧ ∃ F, Rep w' p m F ∧ ∀ k ∈ F, w.heap.size ≤ k

set_option maxHeartbeats 1000000 in
theorem New_no (w : World) (B : Nat) (base most call : Int) (a : Value) (xs : List Int) (ha : Reads w B a xs) (hno : takesB base most (arityI call) xs.length = false) :
    Calls Try.prog 19 #[.int .i64 base, .int .i64 most, .int .i64 call, a] w (Gives (.tuple #[.pointer none, .int .i64 1]) w) := by
  obtain ⟨hxl, hxr, a, ca, rfl, hca, ha⟩ := ha
  have hno' := of_decide_eq_false hno
  clear hno ha
  rcases (show base < 0 ∨ (0 ≤ base ∧ 1024 < base) ∨ (0 ≤ base ∧ base ≤ 1024 ∧ most < 0) ∨ (0 ≤ base ∧ base ≤ 1024 ∧ 0 ≤ most ∧ 16 < most) ∨ (0 ≤ base ∧ base ≤ 1024 ∧ 0 ≤ most ∧ most ≤ 16 ∧ arityI call ≠ (xs.length : Int)) from by omega) with h | ⟨h1, h⟩ | ⟨h1, h2, h⟩ | ⟨h1, h2, h3, h⟩ | ⟨h1, h2, h3, h4, h⟩
  case' inr.inr.inr.inr => (have h' : (arityI call != (xs.length : Int)) = true := by simpa using h); clear h
  all_goals
    clear hno'
    go_enter Try.func19, Try.ntmps19
    go_wp2_with (go_at_call 32; refine (arity_calls _ _).mono ?_; rintro e w' ⟨rfl, rfl⟩)
    go_ret2
    exact ⟨rfl, below_alloc _ _⟩

theorem list_one {xs : List Int} (h : xs.length = 1) : ∃ i, xs = [i] := by
  match xs, h with
  | [i], _ => exact ⟨i, rfl⟩

theorem arity_cases {call : Int} {n : Nat} (h : arityI call = (n : Int)) : (call = 1 ∨ call = 4 ∨ call = 6 ∨ call = 8) ∧ n = 1 ∨ (call = 7 ∨ call = 5) ∧ n = 0 := by
  unfold arityI at h
  split at h
  · left; exact ⟨by assumption, by omega⟩
  · split at h
    · right; exact ⟨by assumption, by omega⟩
    · omega

set_option maxRecDepth 100000 in
set_option maxHeartbeats 2000000 in
theorem New_yes (w : World) (B : Nat) (base most call : Int) (a : Value) (xs : List Int) (ha : Reads w B a xs) (hB : B ≤ w.heap.size) (hyes : takesB base most (arityI call) xs.length = true) :
    Calls Try.prog 19 #[.int .i64 base, .int .i64 most, .int .i64 call, a] w (NewPost (initM base most call xs) w) := by
  obtain ⟨hxl, hxr, a, ca, rfl, hca, ha⟩ := ha
  obtain ⟨⟨hm0, hm16⟩, hb0, hb1, har⟩ := of_decide_eq_true hyes
  clear hyes
  have hok : Hid (inB base most) := ⟨hb0, hb1, hm0, hm16⟩
  have harr : (arityI call != (xs.length : Int)) = false := by simpa using har
  rcases arity_cases har with ⟨hc, hl⟩ | ⟨hc, hl⟩
  · obtain ⟨i, rfl⟩ := list_one hl
    rcases ha with h | ⟨b, off, rfl, hBb, hcell⟩
    · cases h
    have c0 := hcell 0 (by simp)
    simp at c0
    have hbs : b < w.heap.size := by omega
    have hbne : b ≠ w.heap.size := by omega
    have c3 : ∀ o1 o2 o3, (((w.alloc o1).alloc o2).alloc o3).cell? ⟨b, off, none⟩ = some (.int .i64 i) := fun o1 o2 o3 => by
      rw [World.cell?_alloc_lt _ _ _ (by simp; omega), World.cell?_alloc_lt _ _ _ (by simp; omega), World.cell?_alloc_lt _ _ _ hbs]
      exact c0
    have e7 : (call == 7) = false := by rcases hc with rfl | rfl | rfl | rfl <;> rfl
    have e5 : (call == 5) = false := by rcases hc with rfl | rfl | rfl | rfl <;> rfl
    have hini : initM base most call [i] = ⟨base, most, .start call i⟩ := by unfold initM; rw [if_neg (by omega), if_neg (by omega)]; rfl
    have HI := Lib.hid hini
    clear hcell hl har hxr hc hini
    go_enter Try.func19, Try.ntmps19
    have harr1 : arityI call = 1 := by have := of_decide_eq_true (show decide (arityI call = 1) = true from by simpa using harr); exact this
    clear harr
    go_wp2_with (go_at_call 32; refine (arity_calls _ _).mono ?_; rintro e w' ⟨rfl, rfl⟩; rw [harr1])
    go_ret2
    rw [HI.out]
    refine ⟨w.heap.size + 1, by omega, rfl, below_alloc_of (below_alloc_of (below_alloc_of (below_alloc _ _) _) _) _, _, ⟨hok.out, trivial,
      [⟨w.heap.size + 1 + 1, #[.pointer (some ⟨w.heap.size + 1, 0, none⟩)], 37⟩, ⟨w.heap.size + 1 + 1 + 1, #[.int .i64 i], 2⟩, ⟨w.heap.size, #[.int .i64 call], 3⟩], _, rfl, heap_old (heap_old (heap_new (by simp))), ?_,
      _, _, _, List.mem_cons_self, List.mem_cons_of_mem _ List.mem_cons_self, List.mem_cons_of_mem _ (List.mem_cons_of_mem _ List.mem_cons_self), rfl⟩, ?_⟩
    · intro x hx
      simp only [List.mem_cons, List.not_mem_nil, or_false] at hx
      rcases hx with rfl | rfl | rfl
      · exact ⟨by simp, heap_old (heap_new (by simp))⟩
      · exact ⟨by simp; omega, heap_new (by simp)⟩
      · exact ⟨by simp, heap_old (heap_old (heap_old (heap_new rfl)))⟩
    · intro q hq
      simp only [List.map_cons, List.map_nil, List.mem_cons, List.not_mem_nil, or_false] at hq
      omega
  · obtain rfl : xs = [] := List.eq_nil_of_length_eq_zero hl
    clear ha har hxr hl
    rcases hc with rfl | rfl
    all_goals
      go_enter Try.func19, Try.ntmps19
      go_wp2_with (go_at_call 32; refine (arity_calls _ _).mono ?_; rintro e w' ⟨rfl, rfl⟩; simp only [show arityI 7 = 0 from rfl, show arityI 5 = 0 from rfl])
      go_ret2
      refine ⟨w.heap.size + 1, by omega, rfl, below_alloc_of (below_alloc_of (below_alloc _ _) _) _, _, ⟨hok.out, trivial,
        [⟨w.heap.size + 1 + 1, #[.pointer (some ⟨w.heap.size + 1, 0, none⟩)], 37⟩], _, rfl, heap_old (heap_new (by simp)), ?_, _, List.mem_cons_self, rfl⟩, ?_⟩
      · intro x hx
        obtain rfl := List.mem_singleton.1 hx
        exact ⟨by simp, heap_new (by simp)⟩
      · intro q hq
        simp only [List.map_cons, List.map_nil, List.mem_cons, List.not_mem_nil, or_false] at hq
        omega

end Go.Proofs.Ytihlbhlagpmbjaa
