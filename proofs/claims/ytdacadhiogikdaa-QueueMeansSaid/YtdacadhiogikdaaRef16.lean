/- The contract of the reference's Next of layer 16. -/
import Derived.Test.YtdacadhiogikdaaNew16
namespace Go.Proofs.Ytdacadhiogikdaa
open Go.RowKit

/-- What the chapter wants next. -/
def refS (base most call : Int) (xs read : List Int) (writes : Int) : WantS :=
  if read.length < 2 then readS (base + read.length)
  else if call = 5 then endS (read.getD 1 0) 0
  else if call = 3 then
    (if most ≤ u64 (read.getD 1 0) then endS 0 2
     else if writes = 0 then putS (base + 2 + behindI (read.getD 0 0) (u64 (read.getD 1 0)) most) (xs.getD 0 0)
     else if writes = 1 then putS (base + 1) (wrap64 (read.getD 1 0 + 1))
     else endS 0 0)
  else if read.getD 1 0 = 0 ∨ most = 0 then endS 0 1
  else if read.length = 2 then readS (base + 2 + behindI (read.getD 0 0) 0 most)
  else if writes = 0 then putS base (behindI (read.getD 0 0) 1 most)
  else if writes = 1 then putS (base + 1) (wrap64 (read.getD 1 0 - 1))
  else endS (read.getD 2 0) 0

/-- May the reference's Next be asked so? -/
def Askable (base most call : Int) (xs : List Int) : Prop := 0 ≤ base ∧ base ≤ 1024 ∧ 0 ≤ most ∧ most ≤ 16 ∧ (call = 3 ∧ xs.length = 1 ∨ call = 2 ∧ xs.length = 0 ∨ call = 5 ∧ xs.length = 0)

theorem askable_of {base most call : Int} {xs : List Int} (h : takesB base most (arityI call) xs.length = true) : Askable base most call xs := by
  obtain ⟨⟨hm0, hm16⟩, hb0, hb1, har⟩ := of_decide_eq_true h
  exact ⟨hb0, hb1, hm0, hm16, arity_cases har⟩

set_option maxHeartbeats 2000000 in
theorem ref_len (w : World) (base most call writes : Int) (a : Value) (b off n c : Nat) (f l : Int) (_hb0 : 0 ≤ base) (_hb1 : base ≤ 1024) (_hm0 : 0 ≤ most) (hm1 : most ≤ 16) (hn : 2 ≤ n) (_hnl : n ≤ 17592186043904)
    (c0 : w.cell? ⟨b, off, none⟩ = some (.int .i64 f)) (c1 : w.cell? ⟨b, off + 1, none⟩ = some (.int .i64 l)) (hbs : b < w.heap.size) (hc : call = 5) :
    Calls Try.prog 31 #[.int .i64 base, .int .i64 most, .int .i64 call, a, .slice (some ⟨b, off, none⟩) n c, .int .i64 writes] w (Gives (endS l 0).val w) := by
  have hbne : b ≠ w.heap.size := by omega
  have hn0 : (0 : Int) < n := by omega
  have hn1 : (1 : Int) < n := by omega
  have hn2 : ¬ (n : Int) < 2 := by omega
  subst hc
  go_enter Try.func31, Try.ntmps31
  go_wp2_with (go_at_call 35; refine (End_calls _ _ _).mono ?_; rintro e w1 ⟨rfl, hb1⟩; have hg1 := box_keep hb1 (heap_new (n := w.heap.size) (by simp)); obtain ⟨_, ⟨f0, f1, f2, f3⟩, hz⟩ := box4 hg1; simp only [WantS.val])
  refine bodyPost_ret (results_cell_row rfl _ _ _ _ _ _ _ rfl (heap_set (heap_set (heap_set (heap_set hg1)))) Try.underlying44 rfl infoWant) rfl ⟨rfl, ?_⟩
  exact ((((below_trans (below_alloc _ _) hb1).setCell (by simp) _).setCell (by simp) _).setCell (by simp) _).setCell (by simp) _

set_option maxHeartbeats 2000000 in
theorem ref_full (w : World) (base most call writes : Int) (a : Value) (b off n c : Nat) (f l : Int) (_hb0 : 0 ≤ base) (_hb1 : base ≤ 1024) (_hm0 : 0 ≤ most) (hm1 : most ≤ 16) (hn : 2 ≤ n) (_hnl : n ≤ 17592186043904)
    (c0 : w.cell? ⟨b, off, none⟩ = some (.int .i64 f)) (c1 : w.cell? ⟨b, off + 1, none⟩ = some (.int .i64 l)) (hbs : b < w.heap.size) (hc : call = 3) (hf : most ≤ u64 l) :
    Calls Try.prog 31 #[.int .i64 base, .int .i64 most, .int .i64 call, a, .slice (some ⟨b, off, none⟩) n c, .int .i64 writes] w (Gives (endS 0 2).val w) := by
  have hbne : b ≠ w.heap.size := by omega
  have hn0 : (0 : Int) < n := by omega
  have hn1 : (1 : Int) < n := by omega
  have hn2 : ¬ (n : Int) < 2 := by omega
  subst hc
  rw [← u64_wrap] at hf
  go_enter Try.func31, Try.ntmps31
  go_wp2_with (go_at_call 35; refine (End_calls _ _ _).mono ?_; rintro e w1 ⟨rfl, hb1⟩; have hg1 := box_keep hb1 (heap_new (n := w.heap.size) (by simp)); obtain ⟨_, ⟨f0, f1, f2, f3⟩, hz⟩ := box4 hg1; simp only [WantS.val])
  refine bodyPost_ret (results_cell_row rfl _ _ _ _ _ _ _ rfl (heap_set (heap_set (heap_set (heap_set hg1)))) Try.underlying44 rfl infoWant) rfl ⟨rfl, ?_⟩
  exact ((((below_trans (below_alloc _ _) hb1).setCell (by simp) _).setCell (by simp) _).setCell (by simp) _).setCell (by simp) _

set_option maxHeartbeats 2000000 in
theorem ref_put1 (w : World) (base most call writes : Int) (a : Value) (b off n c : Nat) (f l : Int) (_hb0 : 0 ≤ base) (_hb1 : base ≤ 1024) (_hm0 : 0 ≤ most) (hm1 : most ≤ 16) (hn : 2 ≤ n) (_hnl : n ≤ 17592186043904)
    (c0 : w.cell? ⟨b, off, none⟩ = some (.int .i64 f)) (c1 : w.cell? ⟨b, off + 1, none⟩ = some (.int .i64 l)) (hbs : b < w.heap.size) (hc : call = 3) (hf : u64 l < most) (hw : writes = 1) :
    Calls Try.prog 31 #[.int .i64 base, .int .i64 most, .int .i64 call, a, .slice (some ⟨b, off, none⟩) n c, .int .i64 writes] w (Gives (putS (base + 1) (wrap64 (l + 1))).val w) := by
  have hbne : b ≠ w.heap.size := by omega
  have hn0 : (0 : Int) < n := by omega
  have hn1 : (1 : Int) < n := by omega
  have hn2 : ¬ (n : Int) < 2 := by omega
  subst hc hw
  rw [← u64_wrap] at hf
  go_enter Try.func31, Try.ntmps31
  go_wp2_with (go_at_call 36; refine (Put_calls _ _ _).mono ?_; rintro e w1 ⟨rfl, hb1⟩; have hg1 := box_keep hb1 (heap_new (n := w.heap.size) (by simp)); obtain ⟨_, ⟨f0, f1, f2, f3⟩, hz⟩ := box4 hg1; simp only [WantS.val])
  refine bodyPost_ret (results_cell_row rfl _ _ _ _ _ _ _ rfl (heap_set (heap_set (heap_set (heap_set hg1)))) Try.underlying44 rfl infoWant) rfl ⟨rfl, ?_⟩
  exact ((((below_trans (below_alloc _ _) hb1).setCell (by simp) _).setCell (by simp) _).setCell (by simp) _).setCell (by simp) _

set_option maxHeartbeats 2000000 in
theorem ref_put2 (w : World) (base most call writes : Int) (a : Value) (b off n c : Nat) (f l : Int) (_hb0 : 0 ≤ base) (_hb1 : base ≤ 1024) (_hm0 : 0 ≤ most) (hm1 : most ≤ 16) (hn : 2 ≤ n) (_hnl : n ≤ 17592186043904)
    (c0 : w.cell? ⟨b, off, none⟩ = some (.int .i64 f)) (c1 : w.cell? ⟨b, off + 1, none⟩ = some (.int .i64 l)) (hbs : b < w.heap.size) (hc : call = 3) (hf : u64 l < most) (hw0 : writes ≠ 0) (hw1 : writes ≠ 1) :
    Calls Try.prog 31 #[.int .i64 base, .int .i64 most, .int .i64 call, a, .slice (some ⟨b, off, none⟩) n c, .int .i64 writes] w (Gives (endS 0 0).val w) := by
  have hbne : b ≠ w.heap.size := by omega
  have hn0 : (0 : Int) < n := by omega
  have hn1 : (1 : Int) < n := by omega
  have hn2 : ¬ (n : Int) < 2 := by omega
  subst hc
  rw [← u64_wrap] at hf
  have g0 : (writes == 0) = false := by simpa using hw0
  have g1 : (writes == 1) = false := by simpa using hw1
  clear hw0 hw1
  go_enter Try.func31, Try.ntmps31
  go_wp2_with (go_at_call 35; refine (End_calls _ _ _).mono ?_; rintro e w1 ⟨rfl, hb1⟩; have hg1 := box_keep hb1 (heap_new (n := w.heap.size) (by simp)); obtain ⟨_, ⟨f0, f1, f2, f3⟩, hz⟩ := box4 hg1; simp only [WantS.val])
  refine bodyPost_ret (results_cell_row rfl _ _ _ _ _ _ _ rfl (heap_set (heap_set (heap_set (heap_set hg1)))) Try.underlying44 rfl infoWant) rfl ⟨rfl, ?_⟩
  exact ((((below_trans (below_alloc _ _) hb1).setCell (by simp) _).setCell (by simp) _).setCell (by simp) _).setCell (by simp) _

set_option maxHeartbeats 2000000 in
theorem ref_zero (w : World) (base most call writes : Int) (a : Value) (b off n c : Nat) (f l : Int) (_hb0 : 0 ≤ base) (_hb1 : base ≤ 1024) (_hm0 : 0 ≤ most) (hm1 : most ≤ 16) (hn : 2 ≤ n) (_hnl : n ≤ 17592186043904)
    (c0 : w.cell? ⟨b, off, none⟩ = some (.int .i64 f)) (c1 : w.cell? ⟨b, off + 1, none⟩ = some (.int .i64 l)) (hbs : b < w.heap.size) (hc5 : call ≠ 5) (hc3 : call ≠ 3) (hl : l = 0) :
    Calls Try.prog 31 #[.int .i64 base, .int .i64 most, .int .i64 call, a, .slice (some ⟨b, off, none⟩) n c, .int .i64 writes] w (Gives (endS 0 1).val w) := by
  have hbne : b ≠ w.heap.size := by omega
  have hn0 : (0 : Int) < n := by omega
  have hn1 : (1 : Int) < n := by omega
  have hn2 : ¬ (n : Int) < 2 := by omega
  have h5 : (call == 5) = false := by simpa using hc5
  have h3 : (call == 3) = false := by simpa using hc3
  clear hc5 hc3
  subst hl
  go_enter Try.func31, Try.ntmps31
  go_wp2_with (go_at_call 35; refine (End_calls _ _ _).mono ?_; rintro e w1 ⟨rfl, hb1⟩; have hg1 := box_keep hb1 (heap_new (n := w.heap.size) (by simp)); obtain ⟨_, ⟨f0, f1, f2, f3⟩, hz⟩ := box4 hg1; simp only [WantS.val])
  refine bodyPost_ret (results_cell_row rfl _ _ _ _ _ _ _ rfl (heap_set (heap_set (heap_set (heap_set hg1)))) Try.underlying44 rfl infoWant) rfl ⟨rfl, ?_⟩
  exact ((((below_trans (below_alloc _ _) hb1).setCell (by simp) _).setCell (by simp) _).setCell (by simp) _).setCell (by simp) _

set_option maxHeartbeats 2000000 in
theorem ref_none (w : World) (base most call writes : Int) (a : Value) (b off n c : Nat) (f l : Int) (_hb0 : 0 ≤ base) (_hb1 : base ≤ 1024) (_hm0 : 0 ≤ most) (hm1 : most ≤ 16) (hn : 2 ≤ n) (_hnl : n ≤ 17592186043904)
    (c0 : w.cell? ⟨b, off, none⟩ = some (.int .i64 f)) (c1 : w.cell? ⟨b, off + 1, none⟩ = some (.int .i64 l)) (hbs : b < w.heap.size) (hc5 : call ≠ 5) (hc3 : call ≠ 3) (hl : l ≠ 0) (hz : most = 0) :
    Calls Try.prog 31 #[.int .i64 base, .int .i64 most, .int .i64 call, a, .slice (some ⟨b, off, none⟩) n c, .int .i64 writes] w (Gives (endS 0 1).val w) := by
  have hbne : b ≠ w.heap.size := by omega
  have hn0 : (0 : Int) < n := by omega
  have hn1 : (1 : Int) < n := by omega
  have hn2 : ¬ (n : Int) < 2 := by omega
  have h5 : (call == 5) = false := by simpa using hc5
  have h3 : (call == 3) = false := by simpa using hc3
  clear hc5 hc3
  have g2 : (l == 0) = false := by simpa using hl
  subst hz
  clear hl
  go_enter Try.func31, Try.ntmps31
  go_wp2_with (go_at_call 35; refine (End_calls _ _ _).mono ?_; rintro e w1 ⟨rfl, hb1⟩; have hg1 := box_keep hb1 (heap_new (n := w.heap.size) (by simp)); obtain ⟨_, ⟨f0, f1, f2, f3⟩, hz⟩ := box4 hg1; simp only [WantS.val])
  refine bodyPost_ret (results_cell_row rfl _ _ _ _ _ _ _ rfl (heap_set (heap_set (heap_set (heap_set hg1)))) Try.underlying44 rfl infoWant) rfl ⟨rfl, ?_⟩
  exact ((((below_trans (below_alloc _ _) hb1).setCell (by simp) _).setCell (by simp) _).setCell (by simp) _).setCell (by simp) _

set_option maxHeartbeats 2000000 in
theorem ref_get2 (w : World) (base most call writes : Int) (a : Value) (b off n c : Nat) (f l : Int) (_hb0 : 0 ≤ base) (_hb1 : base ≤ 1024) (_hm0 : 0 ≤ most) (hm1 : most ≤ 16) (hn : 2 ≤ n) (_hnl : n ≤ 17592186043904)
    (c0 : w.cell? ⟨b, off, none⟩ = some (.int .i64 f)) (c1 : w.cell? ⟨b, off + 1, none⟩ = some (.int .i64 l)) (hbs : b < w.heap.size) (hc5 : call ≠ 5) (hc3 : call ≠ 3) (hl : l ≠ 0) (h1 : 1 ≤ most) (h3n : 3 ≤ n) (hw : writes = 1) :
    Calls Try.prog 31 #[.int .i64 base, .int .i64 most, .int .i64 call, a, .slice (some ⟨b, off, none⟩) n c, .int .i64 writes] w (Gives (putS (base + 1) (wrap64 (l - 1))).val w) := by
  have hbne : b ≠ w.heap.size := by omega
  have hn0 : (0 : Int) < n := by omega
  have hn1 : (1 : Int) < n := by omega
  have hn2 : ¬ (n : Int) < 2 := by omega
  have h5 : (call == 5) = false := by simpa using hc5
  have h3 : (call == 3) = false := by simpa using hc3
  clear hc5 hc3
  have g2 : (l == 0) = false := by simpa using hl
  have g3 : (most == 0) = false := by simp; omega
  have g4 : ((n : Int) == 2) = false := by simp; omega
  subst hw
  clear hl
  go_enter Try.func31, Try.ntmps31
  go_wp2_with (go_at_call 36; refine (Put_calls _ _ _).mono ?_; rintro e w1 ⟨rfl, hb1⟩; have hg1 := box_keep hb1 (heap_new (n := w.heap.size) (by simp)); obtain ⟨_, ⟨f0, f1, f2, f3⟩, hz⟩ := box4 hg1; simp only [WantS.val])
  refine bodyPost_ret (results_cell_row rfl _ _ _ _ _ _ _ rfl (heap_set (heap_set (heap_set (heap_set hg1)))) Try.underlying44 rfl infoWant) rfl ⟨rfl, ?_⟩
  exact ((((below_trans (below_alloc _ _) hb1).setCell (by simp) _).setCell (by simp) _).setCell (by simp) _).setCell (by simp) _

set_option maxHeartbeats 2000000 in
theorem ref_get3 (w : World) (base most call writes : Int) (a : Value) (b off n c : Nat) (f l : Int) (_hb0 : 0 ≤ base) (_hb1 : base ≤ 1024) (_hm0 : 0 ≤ most) (hm1 : most ≤ 16) (hn : 2 ≤ n) (_hnl : n ≤ 17592186043904)
    (c0 : w.cell? ⟨b, off, none⟩ = some (.int .i64 f)) (c1 : w.cell? ⟨b, off + 1, none⟩ = some (.int .i64 l)) (hbs : b < w.heap.size) (hc5 : call ≠ 5) (hc3 : call ≠ 3) (hl : l ≠ 0) (h1 : 1 ≤ most) (h3n : 3 ≤ n) (hw0 : writes ≠ 0) (hw1 : writes ≠ 1) (v : Int) (c2 : w.cell? ⟨b, off + 2, none⟩ = some (.int .i64 v)) :
    Calls Try.prog 31 #[.int .i64 base, .int .i64 most, .int .i64 call, a, .slice (some ⟨b, off, none⟩) n c, .int .i64 writes] w (Gives (endS v 0).val w) := by
  have hbne : b ≠ w.heap.size := by omega
  have hn0 : (0 : Int) < n := by omega
  have hn1 : (1 : Int) < n := by omega
  have hn2 : ¬ (n : Int) < 2 := by omega
  have h5 : (call == 5) = false := by simpa using hc5
  have h3 : (call == 3) = false := by simpa using hc3
  clear hc5 hc3
  have g2 : (l == 0) = false := by simpa using hl
  have g3 : (most == 0) = false := by simp; omega
  have g4 : ((n : Int) == 2) = false := by simp; omega
  have g5 : (2 : Int) < n := by omega
  have g0 : (writes == 0) = false := by simpa using hw0
  have g1 : (writes == 1) = false := by simpa using hw1
  clear hl hw0 hw1
  go_enter Try.func31, Try.ntmps31
  go_wp2_with (go_at_call 35; refine (End_calls _ _ _).mono ?_; rintro e w1 ⟨rfl, hb1⟩; have hg1 := box_keep hb1 (heap_new (n := w.heap.size) (by simp)); obtain ⟨_, ⟨f0, f1, f2, f3⟩, hz⟩ := box4 hg1; simp only [WantS.val])
  refine bodyPost_ret (results_cell_row rfl _ _ _ _ _ _ _ rfl (heap_set (heap_set (heap_set (heap_set hg1)))) Try.underlying44 rfl infoWant) rfl ⟨rfl, ?_⟩
  exact ((((below_trans (below_alloc _ _) hb1).setCell (by simp) _).setCell (by simp) _).setCell (by simp) _).setCell (by simp) _

set_option maxHeartbeats 2000000 in
theorem ref_get0 (w : World) (base most call writes : Int) (a : Value) (b off n c : Nat) (f l : Int) (_hb0 : 0 ≤ base) (_hb1 : base ≤ 1024) (_hm0 : 0 ≤ most) (hm1 : most ≤ 16) (hn : 2 ≤ n) (_hnl : n ≤ 17592186043904)
    (c0 : w.cell? ⟨b, off, none⟩ = some (.int .i64 f)) (c1 : w.cell? ⟨b, off + 1, none⟩ = some (.int .i64 l)) (hbs : b < w.heap.size) (hc5 : call ≠ 5) (hc3 : call ≠ 3) (hl : l ≠ 0) (h1 : 1 ≤ most) (h2n : n = 2) :
    Calls Try.prog 31 #[.int .i64 base, .int .i64 most, .int .i64 call, a, .slice (some ⟨b, off, none⟩) n c, .int .i64 writes] w (Gives (readS (base + 2 + behindI f 0 most)).val w) := by
  have hbne : b ≠ w.heap.size := by omega
  have hn0 : (0 : Int) < n := by omega
  have hn1 : (1 : Int) < n := by omega
  have hn2 : ¬ (n : Int) < 2 := by omega
  have h5 : (call == 5) = false := by simpa using hc5
  have h3 : (call == 3) = false := by simpa using hc3
  clear hc5 hc3
  have g2 : (l == 0) = false := by simpa using hl
  have g3 : (most == 0) = false := by simp; omega
  have hbb := behind_bounds f 0 most h1
  subst h2n
  clear hl
  go_enter Try.func31, Try.ntmps31
  go_wp2_with (first | (go_at_call 27; refine (Behind_calls _ _ _ _ h1 hm1 (by omega) (by omega)).mono ?_; rintro e w' ⟨rfl, q, rfl⟩) | (go_at_call 34; refine (Read_calls _ _).mono ?_; rintro e w1 ⟨rfl, hb1⟩; have hg1 := box_keep hb1 (heap_new_drewN (n := w.heap.size) (by simp)); obtain ⟨_, ⟨f0, f1, f2, f3⟩, hz⟩ := box4 hg1; simp only [WantS.val]))
  refine bodyPost_ret (results_cell_row rfl _ _ _ _ _ _ _ rfl (heap_set (heap_set (heap_set (heap_set hg1)))) Try.underlying44 rfl infoWant) rfl ⟨rfl, ?_⟩
  exact ((((below_trans (below_trans (below_alloc _ _) (below_drewN _ _)) hb1).setCell (by simp) _).setCell (by simp) _).setCell (by simp) _).setCell (by simp) _

set_option maxHeartbeats 2000000 in
theorem ref_get1 (w : World) (base most call writes : Int) (a : Value) (b off n c : Nat) (f l : Int) (_hb0 : 0 ≤ base) (_hb1 : base ≤ 1024) (_hm0 : 0 ≤ most) (hm1 : most ≤ 16) (hn : 2 ≤ n) (_hnl : n ≤ 17592186043904)
    (c0 : w.cell? ⟨b, off, none⟩ = some (.int .i64 f)) (c1 : w.cell? ⟨b, off + 1, none⟩ = some (.int .i64 l)) (hbs : b < w.heap.size) (hc5 : call ≠ 5) (hc3 : call ≠ 3) (hl : l ≠ 0) (h1 : 1 ≤ most) (h3n : 3 ≤ n) (hw : writes = 0) :
    Calls Try.prog 31 #[.int .i64 base, .int .i64 most, .int .i64 call, a, .slice (some ⟨b, off, none⟩) n c, .int .i64 writes] w (Gives (putS base (behindI f 1 most)).val w) := by
  have hbne : b ≠ w.heap.size := by omega
  have hn0 : (0 : Int) < n := by omega
  have hn1 : (1 : Int) < n := by omega
  have hn2 : ¬ (n : Int) < 2 := by omega
  have h5 : (call == 5) = false := by simpa using hc5
  have h3 : (call == 3) = false := by simpa using hc3
  clear hc5 hc3
  have g2 : (l == 0) = false := by simpa using hl
  have g3 : (most == 0) = false := by simp; omega
  have g4 : ((n : Int) == 2) = false := by simp; omega
  have hbb := behind_bounds f 1 most h1
  subst hw
  clear hl
  go_enter Try.func31, Try.ntmps31
  go_wp2_with (first | (go_at_call 27; refine (Behind_calls _ _ _ _ h1 hm1 (by omega) (by omega)).mono ?_; rintro e w' ⟨rfl, q, rfl⟩) | (go_at_call 36; refine (Put_calls _ _ _).mono ?_; rintro e w1 ⟨rfl, hb1⟩; have hg1 := box_keep hb1 (heap_new_drewN (n := w.heap.size) (by simp)); obtain ⟨_, ⟨f0, f1, f2, f3⟩, hz⟩ := box4 hg1; simp only [WantS.val]))
  refine bodyPost_ret (results_cell_row rfl _ _ _ _ _ _ _ rfl (heap_set (heap_set (heap_set (heap_set hg1)))) Try.underlying44 rfl infoWant) rfl ⟨rfl, ?_⟩
  exact ((((below_trans (below_trans (below_alloc _ _) (below_drewN _ _)) hb1).setCell (by simp) _).setCell (by simp) _).setCell (by simp) _).setCell (by simp) _

set_option maxHeartbeats 4000000 in
theorem ref_put0 (w : World) (base most : Int) (bx ox cx b off n c : Nat) (f l v : Int) (_hb0 : 0 ≤ base) (_hb1 : base ≤ 1024) (hm1 : most ≤ 16) (hn : 2 ≤ n) (_hnl : n ≤ 17592186043904)
    (c0 : w.cell? ⟨b, off, none⟩ = some (.int .i64 f)) (c1 : w.cell? ⟨b, off + 1, none⟩ = some (.int .i64 l)) (hbs : b < w.heap.size) (hf : u64 l < most) (h1 : 1 ≤ most) (cv : w.cell? ⟨bx, ox, none⟩ = some (.int .i64 v)) (hbx : bx < w.heap.size) :
    Calls Try.prog 31 #[.int .i64 base, .int .i64 most, .int .i64 3, .slice (some ⟨bx, ox, none⟩) 1 cx, .slice (some ⟨b, off, none⟩) n c, .int .i64 0] w (Gives (putS (base + 2 + behindI f (u64 l) most) v).val w) := by
  have hbne : b ≠ w.heap.size := by omega
  have hbne2 : bx ≠ w.heap.size := by omega
  have hn0 : (0 : Int) < n := by omega
  have hn1 : (1 : Int) < n := by omega
  have hn2 : ¬ (n : Int) < 2 := by omega
  have hub := u64_bounds l
  have hbb := behind_bounds f (u64 l) most h1
  rw [← u64_wrap] at hf hub hbb ⊢
  have hw1 : IntKind.i64.wrap (base + 2) = base + 2 := IntWalk.i64_in _ (by omega)
  have hw2 : IntKind.i64.wrap (base + 2 + behindI f (IntKind.u64.wrap l) most) = base + 2 + behindI f (IntKind.u64.wrap l) most := IntWalk.i64_in _ (by omega)
  have HW := Lib.hid (⟨hw1, hw2⟩ : _ ∧ _)
  clear hw1 hw2
  go_enter Try.func31, Try.ntmps31
  go_wp2_with fail
  obtain ⟨hw1, hw2⟩ := HW.out
  clear hbb hn hn2 HW
  go_region_with (first | (go_at_call 27; refine (Behind_calls _ _ _ _ h1 hm1 hub.1 hub.2).mono ?_; rintro e w' ⟨rfl, q, rfl⟩) | (go_at_call 36; refine (Put_calls _ _ _).mono ?_; rintro e w1 ⟨rfl, hb1⟩; have hg1 := box_keep hb1 (heap_new_drewN (n := w.heap.size) (by simp)); obtain ⟨_, ⟨f0, f1, f2, f3⟩, hz⟩ := box4 hg1; simp only [WantS.val]))
  all_goals
    go_wp2
    refine bodyPost_ret (results_cell_row rfl _ _ _ _ _ _ _ rfl (heap_set (heap_set (heap_set (heap_set hg1)))) Try.underlying44 rfl infoWant) rfl ⟨rfl, ?_⟩
    exact ((((below_trans (below_trans (below_alloc _ _) (below_drewN _ _)) hb1).setCell (by simp) _).setCell (by simp) _).setCell (by simp) _).setCell (by simp) _

theorem refNext_calls (w : World) (B : Nat) (base most call writes : Int) (a r : Value) (xs read : List Int) (ha : Reads w B a xs) (hr : Reads w B r read) (hB : B ≤ w.heap.size)
    (hok : Askable base most call xs) :
    Calls Try.prog 31 #[.int .i64 base, .int .i64 most, .int .i64 call, a, r, .int .i64 writes] w (Gives (refS base most call xs read writes).val w) := by
  obtain ⟨hxl, hxr, a, ca, rfl, hca, ha⟩ := ha
  obtain ⟨hrl, hrr, r, cr, rfl, hcr, hr⟩ := hr
  obtain ⟨hb0, hb1, hm0, hm1, hcase⟩ := hok
  by_cases hl2 : read.length < 2
  · have hin : refS base most call xs read writes = readS (base + read.length) := if_pos hl2
    rw [hin]
    clear hin ha hr hxr hrr hcase
    have h2 : (read.length : Int) < 2 := by omega
    go_enter Try.func31, Try.ntmps31
    go_wp2_with (go_at_call 34; refine (Read_calls _ _).mono ?_; rintro e w1 ⟨rfl, hb1⟩; have hg1 := box_keep hb1 (heap_new (n := w.heap.size) (by simp)); obtain ⟨_, ⟨f0, f1, f2, f3⟩, hz⟩ := box4 hg1; simp only [WantS.val])
    refine bodyPost_ret (results_cell_row rfl _ _ _ _ _ _ _ rfl (heap_set (heap_set (heap_set (heap_set hg1)))) Try.underlying44 rfl infoWant) rfl ⟨rfl, ?_⟩
    exact ((((below_trans (below_alloc _ _) hb1).setCell (by simp) _).setCell (by simp) _).setCell (by simp) _).setCell (by simp) _
  · rcases hr with hr | ⟨b, off, rfl, hBb, hcell⟩
    · subst hr; simp at hl2
    have hlen : 2 ≤ read.length := by omega
    have c0 := hcell 0 (by omega)
    have c1 := hcell 1 (by omega)
    rw [Nat.add_zero] at c0
    have hbs : b < w.heap.size := by omega
    unfold refS
    rw [if_neg hl2]
    by_cases hc5 : call = 5
    · rw [if_pos hc5]
      exact ref_len w base most call writes _ b off _ cr _ _ hb0 hb1 hm0 hm1 hlen hrl c0 c1 hbs hc5
    rw [if_neg hc5]
    by_cases hc3 : call = 3
    · rw [if_pos hc3]
      by_cases hf : most ≤ u64 (read.getD 1 0)
      · rw [if_pos hf]
        exact ref_full w base most call writes _ b off _ cr _ _ hb0 hb1 hm0 hm1 hlen hrl c0 c1 hbs hc3 hf
      rw [if_neg hf]
      by_cases hw0 : writes = 0
      · rw [if_pos hw0]
        subst hw0 hc3
        have hx1 : xs.length = 1 := by omega
        rcases ha with h | ⟨bx, ox, rfl, hBx, hcx⟩
        · subst h; simp at hx1
        have cv := hcx 0 (by omega)
        rw [Nat.add_zero] at cv
        rw [hx1]
        have h1 : 1 ≤ most := by have := u64_bounds (read.getD 1 0); omega
        exact ref_put0 w base most bx ox ca b off _ cr _ _ _ hb0 hb1 hm1 hlen hrl c0 c1 hbs (by omega) h1 cv (by omega)
      rw [if_neg hw0]
      by_cases hw1 : writes = 1
      · rw [if_pos hw1]
        exact ref_put1 w base most call writes _ b off _ cr _ _ hb0 hb1 hm0 hm1 hlen hrl c0 c1 hbs hc3 (by omega) hw1
      · rw [if_neg hw1]
        exact ref_put2 w base most call writes _ b off _ cr _ _ hb0 hb1 hm0 hm1 hlen hrl c0 c1 hbs hc3 (by omega) hw0 hw1
    rw [if_neg hc3]
    by_cases hl : read.getD 1 0 = 0
    · rw [if_pos (.inl hl)]
      exact ref_zero w base most call writes _ b off _ cr _ _ hb0 hb1 hm0 hm1 hlen hrl c0 c1 hbs hc5 hc3 hl
    by_cases hz : most = 0
    · rw [if_pos (.inr hz)]
      exact ref_none w base most call writes _ b off _ cr _ _ hb0 hb1 hm0 hm1 hlen hrl c0 c1 hbs hc5 hc3 hl hz
    rw [if_neg (by omega)]
    have h1 : 1 ≤ most := by omega
    by_cases h2 : read.length = 2
    · rw [if_pos h2]
      exact ref_get0 w base most call writes _ b off _ cr _ _ hb0 hb1 hm0 hm1 hlen hrl c0 c1 hbs hc5 hc3 hl h1 h2
    rw [if_neg h2]
    have h3 : 3 ≤ read.length := by omega
    by_cases hw0 : writes = 0
    · rw [if_pos hw0]
      exact ref_get1 w base most call writes _ b off _ cr _ _ hb0 hb1 hm0 hm1 hlen hrl c0 c1 hbs hc5 hc3 hl h1 h3 hw0
    rw [if_neg hw0]
    by_cases hw1 : writes = 1
    · rw [if_pos hw1]
      exact ref_get2 w base most call writes _ b off _ cr _ _ hb0 hb1 hm0 hm1 hlen hrl c0 c1 hbs hc5 hc3 hl h1 h3 hw1
    · rw [if_neg hw1]
      exact ref_get3 w base most call writes _ b off _ cr _ _ hb0 hb1 hm0 hm1 hlen hrl c0 c1 hbs hc5 hc3 hl h1 h3 hw0 hw1 _ (hcell 2 (by omega))

end Go.Proofs.Ytdacadhiogikdaa
