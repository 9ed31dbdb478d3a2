/- The chain's machine: the contracts of read, write, done, leads, key, link. -/
import Derived.Test.YtihlbhlagpmbjaaMach18
namespace Go.Proofs.Ytihlbhlagpmbjaa
open Go.RowKit

theorem lies3 {w : World} {p : Nat} {base most : Int} {nx : Value} (h : Lies w p base most nx) :
    (w.cell? ⟨p, 0, none⟩ = some (.int .i64 base) ∧ w.cell? ⟨p, 1, none⟩ = some (.int .i64 most) ∧ w.cell? ⟨p, 2, none⟩ = some nx) ∧ w.frozen? ⟨p, 2, none⟩ = false ∧ p < w.heap.size := by
  unfold Lies at h
  have hc := fun j => cell_of_row w p j _ _ _ h
  refine ⟨⟨?_, ?_, ?_⟩, frozen_of_row w p 2 _ _ h, (Array.getElem?_eq_some_iff.1 h).1⟩
  · simpa using hc 0
  · simpa using hc 1
  · simpa using hc 2

set_option maxHeartbeats 1000000 in
theorem leads_calls (w : World) (p : Nat) (base most : Int) (nx : Value) (v : Int) (h : Lies w p base most nx) :
    Calls Try.prog 50 #[.pointer (some ⟨p, 0, none⟩), .int .i64 v] w (Just (.bool (decide (leadsP most v))) w) := by
  obtain ⟨⟨c0, c1, c2⟩, -, hlt⟩ := lies3 h
  clear h
  rcases (show v < 1 ∨ (1 ≤ v ∧ v ≤ most) ∨ (1 ≤ v ∧ most < v) from by omega) with h | ⟨h, h1⟩ | ⟨h, h1⟩
  · have e : decide (leadsP most v) = false := decide_eq_false (fun h => by have := h.1; omega)
    rw [e]
    clear e
    go_enter Try.func50, Try.ntmps50
    go_wp2
    go_ret
    exact ⟨by first | rfl | simp_all, rfl⟩
  · have e : decide (leadsP most v) = true := decide_eq_true ⟨h, h1⟩
    rw [e]
    clear e
    go_enter Try.func50, Try.ntmps50
    go_wp2
    go_ret
    exact ⟨by first | rfl | simp_all, rfl⟩
  · have e : decide (leadsP most v) = false := decide_eq_false (fun h => by have := h.2; omega)
    rw [e]
    clear e
    go_enter Try.func50, Try.ntmps50
    go_wp2
    go_ret
    exact ⟨by first | rfl | simp_all, rfl⟩

theorem leads_t {w : World} {p : Nat} {base most : Int} {nx : Value} {v : Int} (h : Lies w p base most nx) (hl : leadsP most v) :
    Calls Try.prog 50 #[.pointer (some ⟨p, 0, none⟩), .int .i64 v] w (Just (.bool true) w) := by
  have := leads_calls w p base most nx v h
  rwa [decide_eq_true hl] at this
theorem leads_f {w : World} {p : Nat} {base most : Int} {nx : Value} {v : Int} (h : Lies w p base most nx) (hl : ¬ leadsP most v) :
    Calls Try.prog 50 #[.pointer (some ⟨p, 0, none⟩), .int .i64 v] w (Just (.bool false) w) := by
  have := leads_calls w p base most nx v h
  rwa [decide_eq_false hl] at this
theorem lies_at {w W : World} {p : Nat} {base most : Int} {nx : Value} (h : Lies w p base most nx) (hW : W.heap = w.heap) : Lies W p base most nx := by
  unfold Lies; rw [hW]; exact h

theorem key_calls (w : World) (n : Int) (h : 0 ≤ n) (h1 : n ≤ 100) : Calls Try.prog 29 #[.int .i64 n] w (Just (.int .i64 (keyI n)) w) := by
  have e : wrap64 (1 + wrap64 (2 * n)) = keyI n := by unfold wrap64 keyI; omega
  have HE := Lib.hid e
  clear e
  go_enter Try.func29, Try.ntmps29
  go_wp2
  go_ret
  exact ⟨by first | rfl | rw [← HE.out]; rfl, rfl⟩
theorem link_calls (w : World) (n : Int) (h : 0 ≤ n) (h1 : n ≤ 100) : Calls Try.prog 47 #[.int .i64 n] w (Just (.int .i64 (linkI n)) w) := by
  have e : wrap64 (2 + wrap64 (2 * n)) = linkI n := by unfold wrap64 linkI; omega
  have HE := Lib.hid e
  clear e
  go_enter Try.func47, Try.ntmps47
  go_wp2
  go_ret
  exact ⟨by first | rfl | rw [← HE.out]; rfl, rfl⟩

theorem keyR {most v : Int} (hl : leadsP most v) (hm : most ≤ 16) : 0 ≤ keyI v ∧ keyI v ≤ 100 := by unfold leadsP at hl; unfold keyI; omega
theorem linkR {most v : Int} (hl : leadsP most v) (hm : most ≤ 16) : 0 ≤ linkI v ∧ linkI v ≤ 100 := by unfold leadsP at hl; unfold linkI; omega
theorem linkC {most v : Int} (hl : leadsP most v) (hm : most ≤ 16) : cellOk (linkI v) := by unfold leadsP at hl; unfold linkI cellOk; omega
theorem cellR {c : Int} (hc : cellOk c) : 0 ≤ c ∧ c ≤ 100 := by unfold cellOk at hc; omega
theorem lead0 {most v : Int} (hl : leadsP most v) : 0 ≤ v := by unfold leadsP at hl; omega
theorem lead1 {most v : Int} (hl : leadsP most v) (hm : most ≤ 16) : v ≤ 100 := by unfold leadsP at hl; omega

/-- Within the bounds of New. -/
def inB (base most : Int) : Prop := 0 ≤ base ∧ base ≤ 1024 ∧ 0 ≤ most ∧ most ≤ 16

set_option maxHeartbeats 1000000 in
theorem read_step (w : World) (p : Nat) (base most : Int) (nx : Value) (B : List Ent) (k : K) (cell : Int) (n : Nat) (bd cs : Array Value) (h : Lies w p base most nx) (hb : inB base most) (hc : 0 ≤ cell ∧ cell ≤ 100) (hF : FV B p k (.func (.func n) bd cs)) :
    Calls Try.prog 34 #[.pointer (some ⟨p, 0, none⟩), .int .i64 cell, .func (.func n) bd cs] w (StepPost p base most B (readS (base + cell), k) w) := by
  obtain ⟨⟨c0, c1, c2⟩, f2, hlt⟩ := lies3 h
  have HP := Lib.hid h
  have HF := Lib.hid hF
  obtain ⟨hb0, hb1, hm0, hm1⟩ := hb
  obtain ⟨hc0, hc1⟩ := hc
  clear h hF
  go_enter Try.func34, Try.ntmps34
  go_wp2
  refine bodyPost_ret (results_cell_row rfl _ _ _ _ _ _ _ rfl (heap_new (by simp)) Try.underlying44 rfl infoWant) rfl ⟨rfl, grown_alloc (grown_set (grown_refl _ _) _) _, _, [], heap_old (heap_set HP.out), (fun x hx => nomatch hx), HF.out⟩

set_option maxHeartbeats 1000000 in
theorem write_step (w : World) (p : Nat) (base most : Int) (nx : Value) (B : List Ent) (t : T) (cell x : Int) (n : Nat) (bd cs : Array Value) (h : Lies w p base most nx) (hb : inB base most) (hc : 0 ≤ cell ∧ cell ≤ 100) (hF : TV B p t (.func (.func n) bd cs)) :
    Calls Try.prog 56 #[.pointer (some ⟨p, 0, none⟩), .int .i64 cell, .int .i64 x, .func (.func n) bd cs] w (StepPost p base most B (putS (base + cell) x, .put t) w) := by
  obtain ⟨⟨c0, c1, c2⟩, f2, hlt⟩ := lies3 h
  have HP := Lib.hid h
  have HF := Lib.hid hF
  obtain ⟨hb0, hb1, hm0, hm1⟩ := hb
  obtain ⟨hc0, hc1⟩ := hc
  clear h hF
  go_enter Try.func56, Try.ntmps56
  go_wp2
  refine bodyPost_ret (results_cell_row rfl _ _ _ _ _ _ _ rfl (heap_new (by simp)) Try.underlying44 rfl infoWant) rfl
    ⟨rfl, grown_alloc (grown_alloc (grown_set (grown_refl _ _) _) _) _, _, [⟨w.heap.size, #[.func (.func n) bd cs], 83⟩], heap_old (heap_old (heap_set HP.out)), ?_, w.heap.size, _, HF.out.mono (fun e he => List.mem_cons_of_mem _ he), List.mem_cons_self, rfl⟩
  intro x hx
  obtain rfl := List.mem_singleton.1 hx
  exact ⟨Nat.le_refl _, heap_old (heap_new (by simp))⟩

set_option maxHeartbeats 1000000 in
theorem done_step (w : World) (p : Nat) (base most : Int) (nx : Value) (B : List Ent) (v code : Int) (h : Lies w p base most nx) :
    Calls Try.prog 43 #[.pointer (some ⟨p, 0, none⟩), .int .i64 v, .int .i64 code] w (StepPost p base most B (endK v code) w) := by
  obtain ⟨⟨c0, c1, c2⟩, f2, hlt⟩ := lies3 h
  have HP := Lib.hid h
  clear h
  go_enter Try.func43, Try.ntmps43
  go_wp2
  refine bodyPost_ret (results_cell_row rfl _ _ _ _ _ _ _ rfl (heap_old (heap_new (by simp))) Try.underlying44 rfl infoWant) rfl
    ⟨rfl, grown_alloc (grown_alloc (grown_set (grown_refl _ _) _) _) _, _, [⟨w.heap.size + 1, #[.int .i64 6, .int .i64 0, .int .i64 v, .int .i64 code], 44⟩], heap_old (heap_old (heap_set HP.out)), ?_, w.heap.size + 1, List.mem_cons_self, rfl⟩
  intro x hx
  obtain rfl := List.mem_singleton.1 hx
  exact ⟨by show w.heap.size ≤ w.heap.size + 1; omega, heap_new (by simp)⟩

end Go.Proofs.Ytihlbhlagpmbjaa
