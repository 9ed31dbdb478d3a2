/- The contracts of the reference's least, length and next (printed by gen_ref18.py). -/
import Derived.Test.YtihlbhlagpmbjaaRefD18
namespace Go.Proofs.Ytihlbhlagpmbjaa
open Go.RowKit
theorem reads_at {w : World} {B : Nat} {r : Value} {p : Int} {l : List Int} (hr : Reads w B r (p :: l)) (hB : B ≤ w.heap.size) :
    ∃ b off c, r = .slice (some ⟨b, off, none⟩) (l.length + 1) c ∧ b < w.heap.size ∧ l.length + 1 ≤ c ∧ l.length + 1 ≤ 17592186043904 ∧ w.cell? ⟨b, off, none⟩ = some (.int .i64 p) ∧ ∀ i, i < l.length → w.cell? ⟨b, off + 1 + i, none⟩ = some (.int .i64 (l.getD i 0)) := by
  obtain ⟨hrl, hrr, a, c, rfl, hc, h⟩ := hr
  rcases h with h | ⟨b, off, rfl, hb, hcell⟩
  · cases h
  · refine ⟨b, off, c, by simp, by omega, by simpa using hc, by simpa using hrl, by simpa using hcell 0 (by simp), fun i hi => ?_⟩
    have := hcell (i + 1) (by simp; omega)
    simpa [Nat.add_assoc, Nat.add_comm 1 i] using this

set_option maxRecDepth 100000 in
set_option maxHeartbeats 2000000 in
theorem least_calls (w : World) (B : Nat) (base most : Int) (r : Value) (read : List Int) (hr : Reads w B r read) (hB : B ≤ w.heap.size) (hb : inB base most) :
    Calls Try.prog 71 #[.int .i64 base, .int .i64 most, r] w (Gives (leastS base most read).val w) := by
  obtain ⟨hb0, hb1', hm0, hm1⟩ := hb
  match read, hr with
  | [], hr =>
    rw [show leastS base most [] = readS base from rfl]
    obtain ⟨hrl, hrr, a, c, rfl, hc, -⟩ := hr
    clear hrl hrr
    simp only [List.length_nil]
    go_enter Try.func71, Try.ntmps71
    go_wp2_with fail
    refine (Read_calls (base) _).mono ?_
    rintro e w1 ⟨rfl, hb1⟩
    have hg1 := box_keep hb1 (show (World.heap _)[w.heap.size]? = some (.cells #[.int .i64 0, .int .i64 0, .int .i64 0, .int .i64 0] 44 (0, 0)) from heap_new (by simp))
    obtain ⟨⟨d0, d1, d2, d3⟩, ⟨g0, g1, g2, g3⟩, hz⟩ := box4 hg1
    simp only [WantS.val]
    go_wp2
    exact bodyPost_ret (results_cell_row rfl _ _ _ _ _ _ _ rfl (heap_set (heap_set (heap_set (heap_set hg1)))) Try.underlying44 rfl infoWant) rfl ⟨rfl, close_ref (g := w.heap.size) (by repeat (first | exact Below.refl _ _ | refine below_alloc_of ?_ _ | refine below_drewN_of ?_ _ | refine below_drew_of ?_)) (by omega) hb1⟩
  | [p], hr =>
    obtain ⟨b, off, c, rfl, hbs, hcc, hcl, c0, -⟩ := reads_at hr hB
    clear hr
    simp only [List.length_nil, Nat.zero_add] at hcc hcl ⊢
    have hbne : b ≠ w.heap.size := by omega
    by_cases hl : leadsP most p
    · have hp0 : ¬ (p = 0) := by unfold leadsP at hl; omega
      rw [show leastS base most [p] = readS (base + keyI p) from if_pos hl]
      go_enter Try.func71, Try.ntmps71
      go_wp2_with fail
      refine (rleads_t hl).mono ?_
      rintro e w' ⟨rfl, rfl⟩
      obtain ⟨n0, n1⟩ := keyR hl hm1
      go_wp2_with fail
      refine (rkey_calls _ (p) (lead0 hl) (lead1 hl hm1)).mono ?_
      rintro e w' ⟨rfl, rfl⟩
      go_wp2_with fail
      refine (Read_calls (base + keyI p) _).mono ?_
      rintro e w1 ⟨rfl, hb1⟩
      have hg1 := box_keep hb1 (show (World.heap _)[w.heap.size]? = some (.cells #[.int .i64 0, .int .i64 0, .int .i64 0, .int .i64 0] 44 (0, 0)) from heap_new (by simp))
      obtain ⟨⟨d0, d1, d2, d3⟩, ⟨g0, g1, g2, g3⟩, hz⟩ := box4 hg1
      simp only [WantS.val]
      go_wp2
      exact bodyPost_ret (results_cell_row rfl _ _ _ _ _ _ _ rfl (heap_set (heap_set (heap_set (heap_set hg1)))) Try.underlying44 rfl infoWant) rfl ⟨rfl, close_ref (g := w.heap.size) (by repeat (first | exact Below.refl _ _ | refine below_alloc_of ?_ _ | refine below_drewN_of ?_ _ | refine below_drew_of ?_)) (by omega) hb1⟩
    · rw [show leastS base most [p] = endS 0 1 from if_neg hl]
      go_enter Try.func71, Try.ntmps71
      go_wp2_with fail
      refine (rleads_f hl).mono ?_
      rintro e w' ⟨rfl, rfl⟩
      go_wp2_with fail
      refine (End_calls (0) (1) _).mono ?_
      rintro e w1 ⟨rfl, hb1⟩
      have hg1 := box_keep hb1 (show (World.heap _)[w.heap.size]? = some (.cells #[.int .i64 0, .int .i64 0, .int .i64 0, .int .i64 0] 44 (0, 0)) from heap_new (by simp))
      obtain ⟨⟨d0, d1, d2, d3⟩, ⟨g0, g1, g2, g3⟩, hz⟩ := box4 hg1
      simp only [WantS.val]
      go_wp2
      exact bodyPost_ret (results_cell_row rfl _ _ _ _ _ _ _ rfl (heap_set (heap_set (heap_set (heap_set hg1)))) Try.underlying44 rfl infoWant) rfl ⟨rfl, close_ref (g := w.heap.size) (by repeat (first | exact Below.refl _ _ | refine below_alloc_of ?_ _ | refine below_drewN_of ?_ _ | refine below_drew_of ?_)) (by omega) hb1⟩
  | p :: v :: tl, hr =>
    obtain ⟨b, off, c, rfl, hbs, hcc, hcl, c0, cs⟩ := reads_at hr hB
    have c1 := cs 0 (by simp)
    simp only [Nat.add_zero, List.getD_cons_zero] at c1
    clear hr cs
    simp only [List.length_cons] at hcc hcl ⊢
    generalize hn : tl.length = n at *
    have hn0 : ¬ ((n : Int) + 1 + 1 = 0) := by omega
    have hn1 : ¬ ((n : Int) + 1 + 1 = 1) := by omega
    have hi0 : (0 : Int) < (n : Int) + 1 + 1 := by omega
    have hi1 : (1 : Int) < (n : Int) + 1 + 1 := by omega
    clear hn
    have hbne : b ≠ w.heap.size := by omega
    by_cases hl : leadsP most p
    · have hp0 : ¬ (p = 0) := by unfold leadsP at hl; omega
      rw [show leastS base most (p :: v :: tl) = endS v 0 from if_pos hl]
      go_enter Try.func71, Try.ntmps71
      go_wp2_with fail
      refine (rleads_t hl).mono ?_
      rintro e w' ⟨rfl, rfl⟩
      go_wp2_with fail
      refine (End_calls (v) (0) _).mono ?_
      rintro e w1 ⟨rfl, hb1⟩
      have hg1 := box_keep hb1 (show (World.heap _)[w.heap.size]? = some (.cells #[.int .i64 0, .int .i64 0, .int .i64 0, .int .i64 0] 44 (0, 0)) from heap_new (by simp))
      obtain ⟨⟨d0, d1, d2, d3⟩, ⟨g0, g1, g2, g3⟩, hz⟩ := box4 hg1
      simp only [WantS.val]
      go_wp2
      exact bodyPost_ret (results_cell_row rfl _ _ _ _ _ _ _ rfl (heap_set (heap_set (heap_set (heap_set hg1)))) Try.underlying44 rfl infoWant) rfl ⟨rfl, close_ref (g := w.heap.size) (by repeat (first | exact Below.refl _ _ | refine below_alloc_of ?_ _ | refine below_drewN_of ?_ _ | refine below_drew_of ?_)) (by omega) hb1⟩
    · rw [show leastS base most (p :: v :: tl) = endS 0 1 from if_neg hl]
      go_enter Try.func71, Try.ntmps71
      go_wp2_with fail
      refine (rleads_f hl).mono ?_
      rintro e w' ⟨rfl, rfl⟩
      go_wp2_with fail
      refine (End_calls (0) (1) _).mono ?_
      rintro e w1 ⟨rfl, hb1⟩
      have hg1 := box_keep hb1 (show (World.heap _)[w.heap.size]? = some (.cells #[.int .i64 0, .int .i64 0, .int .i64 0, .int .i64 0] 44 (0, 0)) from heap_new (by simp))
      obtain ⟨⟨d0, d1, d2, d3⟩, ⟨g0, g1, g2, g3⟩, hz⟩ := box4 hg1
      simp only [WantS.val]
      go_wp2
      exact bodyPost_ret (results_cell_row rfl _ _ _ _ _ _ _ rfl (heap_set (heap_set (heap_set (heap_set hg1)))) Try.underlying44 rfl infoWant) rfl ⟨rfl, close_ref (g := w.heap.size) (by repeat (first | exact Below.refl _ _ | refine below_alloc_of ?_ _ | refine below_drewN_of ?_ _ | refine below_drew_of ?_)) (by omega) hb1⟩

set_option maxRecDepth 100000 in
set_option maxHeartbeats 2000000 in
theorem next_calls (w : World) (B : Nat) (base most : Int) (link0 p0 node : Int) (at0 : Bool) (key0 : Int) (reads0 : Nat) (over0 : Bool) (cell0 : Int) (r : Value) (left : List Int) (hr : Reads w B r left) (hB : B ≤ w.heap.size) (hb : inB base most) (hx : at0 = true → leadsP most node) :
    Calls Try.prog 77 #[.int .i64 base, .int .i64 most, .agg #[.int .i64 link0, .int .i64 p0, .int .i64 node, .bool at0, .int .i64 key0, .int .i64 reads0, .bool over0, .int .i64 cell0], r] w (Gives (nextS base most ⟨link0, p0, node, at0, key0, reads0, over0, cell0⟩ left).val w) := by
  obtain ⟨hb0, hb1', hm0, hm1⟩ := hb
  by_cases hnd : node = 0
  · subst hnd
    rw [show nextS base most ⟨link0, p0, 0, at0, key0, reads0, over0, cell0⟩ left = endS 0 1 from rfl]
    obtain ⟨hrl, hrr, a, c, rfl, hc, -⟩ := hr
    clear hrl hrr hx
    go_enter Try.func77, Try.ntmps77
    go_wp2_with fail
    refine (End_calls (0) (1) _).mono ?_
    rintro e w1 ⟨rfl, hb1⟩
    have hg1 := box_keep hb1 (show (World.heap _)[w.heap.size + 1]? = some (.cells #[.int .i64 0, .int .i64 0, .int .i64 0, .int .i64 0] 44 (0, 0)) from heap_new (by simp))
    obtain ⟨⟨d0, d1, d2, d3⟩, ⟨g0, g1, g2, g3⟩, hz⟩ := box4 hg1
    simp only [WantS.val]
    go_wp2
    exact bodyPost_ret (results_cell_row rfl _ _ _ _ _ _ _ rfl (heap_set (heap_set (heap_set (heap_set hg1)))) Try.underlying44 rfl infoWant) rfl ⟨rfl, close_ref (g := w.heap.size + 1) (by repeat (first | exact Below.refl _ _ | refine below_alloc_of ?_ _ | refine below_drewN_of ?_ _ | refine below_drew_of ?_)) (by omega) hb1⟩
  cases at0 with
  | false =>
    rw [show nextS base most ⟨link0, p0, node, false, key0, reads0, over0, cell0⟩ left = endS key0 0 from by unfold nextS; rw [if_neg hnd, if_pos rfl]]
    obtain ⟨hrl, hrr, a, c, rfl, hc, -⟩ := hr
    clear hrl hrr hx
    go_enter Try.func77, Try.ntmps77
    go_wp2_with fail
    refine (End_calls (key0) (0) _).mono ?_
    rintro e w1 ⟨rfl, hb1⟩
    have hg1 := box_keep hb1 (show (World.heap _)[w.heap.size + 1]? = some (.cells #[.int .i64 0, .int .i64 0, .int .i64 0, .int .i64 0] 44 (0, 0)) from heap_new (by simp))
    obtain ⟨⟨d0, d1, d2, d3⟩, ⟨g0, g1, g2, g3⟩, hz⟩ := box4 hg1
    simp only [WantS.val]
    go_wp2
    exact bodyPost_ret (results_cell_row rfl _ _ _ _ _ _ _ rfl (heap_set (heap_set (heap_set (heap_set hg1)))) Try.underlying44 rfl infoWant) rfl ⟨rfl, close_ref (g := w.heap.size + 1) (by repeat (first | exact Below.refl _ _ | refine below_alloc_of ?_ _ | refine below_drewN_of ?_ _ | refine below_drew_of ?_)) (by omega) hb1⟩
  | true =>
    have hk := hx rfl
    clear hx
    have hgo : nextS base most ⟨link0, p0, node, true, key0, reads0, over0, cell0⟩ left = aboveS base most node left := by unfold nextS; rw [if_neg hnd, if_neg (by simp)]
    rw [hgo]
    clear hgo
    rcases left with _ | ⟨q, _ | ⟨v, tl⟩⟩
    · obtain ⟨hrl, hrr, a, c, rfl, hc, -⟩ := hr
      clear hrl hrr
      simp only [List.length_nil]
      show Calls _ _ _ _ (Gives (readS (base + linkI node)).val w)
      go_enter Try.func77, Try.ntmps77
      obtain ⟨n0, n1⟩ := linkR hk hm1
      go_wp2_with fail
      refine (rlink_calls _ (node) (lead0 hk) (lead1 hk hm1)).mono ?_
      rintro e w' ⟨rfl, rfl⟩
      go_wp2_with fail
      refine (Read_calls (base + linkI node) _).mono ?_
      rintro e w1 ⟨rfl, hb1⟩
      have hg1 := box_keep hb1 (show (World.heap _)[w.heap.size + 1]? = some (.cells #[.int .i64 0, .int .i64 0, .int .i64 0, .int .i64 0] 44 (0, 0)) from heap_new (by simp))
      obtain ⟨⟨d0, d1, d2, d3⟩, ⟨g0, g1, g2, g3⟩, hz⟩ := box4 hg1
      simp only [WantS.val]
      go_wp2
      exact bodyPost_ret (results_cell_row rfl _ _ _ _ _ _ _ rfl (heap_set (heap_set (heap_set (heap_set hg1)))) Try.underlying44 rfl infoWant) rfl ⟨rfl, close_ref (g := w.heap.size + 1) (by repeat (first | exact Below.refl _ _ | refine below_alloc_of ?_ _ | refine below_drewN_of ?_ _ | refine below_drew_of ?_)) (by omega) hb1⟩
    · obtain ⟨b, off, c, rfl, hbs, hcc, hcl, c0, -⟩ := reads_at hr hB
      clear hr
      simp only [List.length_nil, Nat.zero_add] at hcc hcl ⊢
      have hbne : b ≠ w.heap.size := by omega
      have hbne1 : b ≠ w.heap.size + 1 := by omega
      by_cases hl : leadsP most q
      · have hp0 : ¬ (q = 0) := by unfold leadsP at hl; omega
        rw [show aboveS base most node [q] = readS (base + keyI q) from if_pos hl]
        go_enter Try.func77, Try.ntmps77
        go_wp2_with fail
        refine (rleads_t hl).mono ?_
        rintro e w' ⟨rfl, rfl⟩
        obtain ⟨n0, n1⟩ := keyR hl hm1
        go_wp2_with fail
        refine (rkey_calls _ (q) (lead0 hl) (lead1 hl hm1)).mono ?_
        rintro e w' ⟨rfl, rfl⟩
        go_wp2_with fail
        refine (Read_calls (base + keyI q) _).mono ?_
        rintro e w1 ⟨rfl, hb1⟩
        have hg1 := box_keep hb1 (show (World.heap _)[w.heap.size + 1]? = some (.cells #[.int .i64 0, .int .i64 0, .int .i64 0, .int .i64 0] 44 (0, 0)) from heap_new (by simp))
        obtain ⟨⟨d0, d1, d2, d3⟩, ⟨g0, g1, g2, g3⟩, hz⟩ := box4 hg1
        simp only [WantS.val]
        go_wp2
        exact bodyPost_ret (results_cell_row rfl _ _ _ _ _ _ _ rfl (heap_set (heap_set (heap_set (heap_set hg1)))) Try.underlying44 rfl infoWant) rfl ⟨rfl, close_ref (g := w.heap.size + 1) (by repeat (first | exact Below.refl _ _ | refine below_alloc_of ?_ _ | refine below_drewN_of ?_ _ | refine below_drew_of ?_)) (by omega) hb1⟩
      · rw [show aboveS base most node [q] = endS 0 1 from if_neg hl]
        go_enter Try.func77, Try.ntmps77
        go_wp2_with fail
        refine (rleads_f hl).mono ?_
        rintro e w' ⟨rfl, rfl⟩
        go_wp2_with fail
        refine (End_calls (0) (1) _).mono ?_
        rintro e w1 ⟨rfl, hb1⟩
        have hg1 := box_keep hb1 (show (World.heap _)[w.heap.size + 1]? = some (.cells #[.int .i64 0, .int .i64 0, .int .i64 0, .int .i64 0] 44 (0, 0)) from heap_new (by simp))
        obtain ⟨⟨d0, d1, d2, d3⟩, ⟨g0, g1, g2, g3⟩, hz⟩ := box4 hg1
        simp only [WantS.val]
        go_wp2
        exact bodyPost_ret (results_cell_row rfl _ _ _ _ _ _ _ rfl (heap_set (heap_set (heap_set (heap_set hg1)))) Try.underlying44 rfl infoWant) rfl ⟨rfl, close_ref (g := w.heap.size + 1) (by repeat (first | exact Below.refl _ _ | refine below_alloc_of ?_ _ | refine below_drewN_of ?_ _ | refine below_drew_of ?_)) (by omega) hb1⟩
    · obtain ⟨b, off, c, rfl, hbs, hcc, hcl, c0, cs⟩ := reads_at hr hB
      have c1 := cs 0 (by simp)
      simp only [Nat.add_zero, List.getD_cons_zero] at c1
      clear hr cs
      simp only [List.length_cons] at hcc hcl ⊢
      generalize hn : tl.length = n at *
      have hn0 : ¬ ((n : Int) + 1 + 1 = 0) := by omega
      have hn1 : ¬ ((n : Int) + 1 + 1 = 1) := by omega
      have hi0 : (0 : Int) < (n : Int) + 1 + 1 := by omega
      have hi1 : (1 : Int) < (n : Int) + 1 + 1 := by omega
      clear hn
      have hbne : b ≠ w.heap.size := by omega
      have hbne1 : b ≠ w.heap.size + 1 := by omega
      by_cases hl : leadsP most q
      · have hp0 : ¬ (q = 0) := by unfold leadsP at hl; omega
        rw [show aboveS base most node (q :: v :: tl) = endS v 0 from if_pos hl]
        go_enter Try.func77, Try.ntmps77
        go_wp2_with fail
        refine (rleads_t hl).mono ?_
        rintro e w' ⟨rfl, rfl⟩
        go_wp2_with fail
        refine (End_calls (v) (0) _).mono ?_
        rintro e w1 ⟨rfl, hb1⟩
        have hg1 := box_keep hb1 (show (World.heap _)[w.heap.size + 1]? = some (.cells #[.int .i64 0, .int .i64 0, .int .i64 0, .int .i64 0] 44 (0, 0)) from heap_new (by simp))
        obtain ⟨⟨d0, d1, d2, d3⟩, ⟨g0, g1, g2, g3⟩, hz⟩ := box4 hg1
        simp only [WantS.val]
        go_wp2
        exact bodyPost_ret (results_cell_row rfl _ _ _ _ _ _ _ rfl (heap_set (heap_set (heap_set (heap_set hg1)))) Try.underlying44 rfl infoWant) rfl ⟨rfl, close_ref (g := w.heap.size + 1) (by repeat (first | exact Below.refl _ _ | refine below_alloc_of ?_ _ | refine below_drewN_of ?_ _ | refine below_drew_of ?_)) (by omega) hb1⟩
      · rw [show aboveS base most node (q :: v :: tl) = endS 0 1 from if_neg hl]
        go_enter Try.func77, Try.ntmps77
        go_wp2_with fail
        refine (rleads_f hl).mono ?_
        rintro e w' ⟨rfl, rfl⟩
        go_wp2_with fail
        refine (End_calls (0) (1) _).mono ?_
        rintro e w1 ⟨rfl, hb1⟩
        have hg1 := box_keep hb1 (show (World.heap _)[w.heap.size + 1]? = some (.cells #[.int .i64 0, .int .i64 0, .int .i64 0, .int .i64 0] 44 (0, 0)) from heap_new (by simp))
        obtain ⟨⟨d0, d1, d2, d3⟩, ⟨g0, g1, g2, g3⟩, hz⟩ := box4 hg1
        simp only [WantS.val]
        go_wp2
        exact bodyPost_ret (results_cell_row rfl _ _ _ _ _ _ _ rfl (heap_set (heap_set (heap_set (heap_set hg1)))) Try.underlying44 rfl infoWant) rfl ⟨rfl, close_ref (g := w.heap.size + 1) (by repeat (first | exact Below.refl _ _ | refine below_alloc_of ?_ _ | refine below_drewN_of ?_ _ | refine below_drew_of ?_)) (by omega) hb1⟩

set_option maxRecDepth 100000 in
set_option maxHeartbeats 2000000 in
theorem length_calls (w : World) (B : Nat) (base most : Int) (r : Value) (read : List Int) (hr : Reads w B r read) (hB : B ≤ w.heap.size) (hb : inB base most) :
    Calls Try.prog 72 #[.int .i64 base, .int .i64 most, r] w (Gives (lenLoop base most read 0 0).val w) := by
  obtain ⟨hb0, hb1', hm0, hm1⟩ := hb
  obtain ⟨hrl, hrr, a, c, rfl, hc, hr⟩ := hr
  generalize hS : lenLoop base most read 0 0 = S
  have HS := Lib.hid hS
  clear hrr hS
  go_enter Try.func72, Try.ntmps72
  go_wp2
  go_loopg [7, 8] (read.length + 1) (fun nn v7 v8 wr => ∃ (k : Nat) (cell : Int), v8 = .int .i64 k ∧ v7 = .int .i64 cell ∧ nn + k = read.length + 1 ∧ k ≤ read.length ∧ (k : Int) ≤ most ∧ cellOk cell ∧ lenLoop base most (read.drop k) k cell = S ∧
    wr.heap[w.heap.size]? = some (.cells #[.int .i64 0, .int .i64 0, .int .i64 0, .int .i64 0] 44 (0, 0)) ∧ Below w.heap.size w wr)
  case atStart => exact ⟨0, 0, rfl, rfl, rfl, Nat.zero_le _, hm0, (by unfold cellOk; omega), HS.out, heap_new rfl, below_alloc _ _⟩
  case round =>
    obtain ⟨k, cell, rfl, rfl, hnn, hk, hkm, hcell, hloop, hbox, bel⟩ := hrel
    obtain ⟨hc0, hc1⟩ := hcell
    have HN := Lib.hid hnn
    have HL := Lib.hid hloop
    have HBX := Lib.hid hbox
    have hlt := (Array.getElem?_eq_some_iff.1 hbox).1
    clear hnn hloop hbox HS
    have hfin : ∀ (W1 : World) (x : WantS) (a b c d : Value), Below wr.heap.size wr W1 → Below w.heap.size w ((((W1.setCell ⟨w.heap.size, 0, none⟩ a).setCell ⟨w.heap.size, 1, none⟩ b).setCell ⟨w.heap.size, 2, none⟩ c).setCell ⟨w.heap.size, 3, none⟩ d) := fun W1 x a b c d h => close_ref bel (Nat.le_refl _) h
    by_cases hkl : k = read.length
    · have hd : read.drop k = [] := by rw [hkl]; exact List.drop_length
      have HR : Hid (S = readS (base + cell)) := by have h := HL.out; rw [hd] at h; exact h.symm
      have hkl' : (k : Int) = (read.length : Int) := by omega
      clear hd hkl
      go_wp2_with fail
      refine (Read_calls (base + cell) _).mono ?_
      rintro e w1 ⟨rfl, hb1⟩
      have hg1 := box_keep hb1 HBX.out
      obtain ⟨⟨d0, d1, d2, d3⟩, ⟨g0, g1, g2, g3⟩, hz⟩ := box4 hg1
      simp only [WantS.val]
      go_wp2
      exact bodyPost_ret (results_cell_row rfl _ _ _ _ _ _ _ rfl (heap_set (heap_set (heap_set (heap_set hg1)))) Try.underlying44 rfl infoWant) rfl ⟨by rw [HR.out]; rfl, hfin _ S _ _ _ _ hb1⟩
    · have hklt : k < read.length := by omega
      rcases hr with h | ⟨b, off, rfl, hbB, hcells⟩
      · rw [h] at hklt; simp at hklt
      have hck := (bel.cell (p := ⟨b, off + k, none⟩) (by simp; omega)).trans (hcells k hklt)
      have hd : read.drop k = read.getD k 0 :: read.drop (k + 1) := by
        rw [List.drop_eq_getElem_cons hklt]; simp [List.getD_eq_getElem?_getD, hklt]
      have HD := Lib.hid hd
      have hbs : b < wr.heap.size := by have := bel.size; omega
      have hkne : ¬ ((k : Int) = (read.length : Int)) := by omega
      have hklt' : (k : Int) < (read.length : Int) := by omega
      generalize read.getD k 0 = q at *
      clear hcells hd hkl
      by_cases hl : leadsP most q
      · have hq0 : ¬ (q = 0) := by unfold leadsP at hl; omega
        by_cases hkm2 : (k : Int) = most
        · have HR : Hid (S = endS k 0) := by have h := HL.out; rw [HD.out] at h; rw [← h]; exact if_neg (fun e => e.2 hkm2)
          have hkq : ((k : Int) == most) = true := by simpa using hkm2
          clear hkm2
          go_wp2_with fail
          refine (rleads_t hl).mono ?_
          rintro e w' ⟨rfl, rfl⟩
          go_wp2_with fail
          refine (End_calls (k) (0) _).mono ?_
          rintro e w1 ⟨rfl, hb1⟩
          have hg1 := box_keep hb1 HBX.out
          obtain ⟨⟨d0, d1, d2, d3⟩, ⟨g0, g1, g2, g3⟩, hz⟩ := box4 hg1
          simp only [WantS.val]
          go_wp2
          exact bodyPost_ret (results_cell_row rfl _ _ _ _ _ _ _ rfl (heap_set (heap_set (heap_set (heap_set hg1)))) Try.underlying44 rfl infoWant) rfl ⟨by rw [HR.out]; rfl, hfin _ S _ _ _ _ hb1⟩
        · have HR : Hid (lenLoop base most (read.drop (k + 1)) ((k : Int) + 1) (linkI q) = S) := by have h := HL.out; rw [HD.out] at h; rw [← h]; exact (if_pos ⟨hl, hkm2⟩).symm
          have hkq : ((k : Int) == most) = false := by simpa using hkm2
          have hkm3 : ((k + 1 : Nat) : Int) ≤ most := by omega
          clear hkm2
          go_wp2_with fail
          refine (rleads_t hl).mono ?_
          rintro e w' ⟨rfl, rfl⟩
          go_wp2_with fail
          refine (rlink_calls _ q (lead0 hl) (lead1 hl hm1)).mono ?_
          rintro e w' ⟨rfl, rfl⟩
          go_wp2
          go_roundg (read.length - k)
          case measure => have := HN.out; omega
          case rel => exact ⟨k + 1, linkI q, by go_num, rfl, by omega, by omega, hkm3, linkC hl hm1, HR.out, HBX.out, bel⟩
      · have HR : Hid (S = endS k 0) := by have h := HL.out; rw [HD.out] at h; rw [← h]; exact if_neg (fun e => hl e.1)
        go_wp2_with fail
        refine (rleads_f hl).mono ?_
        rintro e w' ⟨rfl, rfl⟩
        go_wp2_with fail
        refine (End_calls (k) (0) _).mono ?_
        rintro e w1 ⟨rfl, hb1⟩
        have hg1 := box_keep hb1 HBX.out
        obtain ⟨⟨d0, d1, d2, d3⟩, ⟨g0, g1, g2, g3⟩, hz⟩ := box4 hg1
        simp only [WantS.val]
        go_wp2
        exact bodyPost_ret (results_cell_row rfl _ _ _ _ _ _ _ rfl (heap_set (heap_set (heap_set (heap_set hg1)))) Try.underlying44 rfl infoWant) rfl ⟨by rw [HR.out]; rfl, hfin _ S _ _ _ _ hb1⟩

end Go.Proofs.Ytihlbhlagpmbjaa
