/- The contracts of the reference's dels and adds (printed by gen_ref18.py). -/
import Derived.Test.YtihlbhlagpmbjaaRefE18
namespace Go.Proofs.Ytihlbhlagpmbjaa
open Go.RowKit
theorem box8 {w : World} {g : Nat} {a b c d e f h i : Value} {t : TypeId} (hg : w.heap[g]? = some (.cells #[a, b, c, d, e, f, h, i] t (0, 0))) :
    (w.cell? ⟨g, 0, none⟩ = some a ∧ w.cell? ⟨g, 1, none⟩ = some b ∧ w.cell? ⟨g, 2, none⟩ = some c ∧ w.cell? ⟨g, 3, none⟩ = some d ∧ w.cell? ⟨g, 4, none⟩ = some e ∧ w.cell? ⟨g, 5, none⟩ = some f ∧ w.cell? ⟨g, 6, none⟩ = some h ∧ w.cell? ⟨g, 7, none⟩ = some i) ∧
    (w.frozen? ⟨g, 0, none⟩ = false ∧ w.frozen? ⟨g, 1, none⟩ = false ∧ w.frozen? ⟨g, 2, none⟩ = false ∧ w.frozen? ⟨g, 3, none⟩ = false ∧ w.frozen? ⟨g, 4, none⟩ = false ∧ w.frozen? ⟨g, 5, none⟩ = false ∧ w.frozen? ⟨g, 6, none⟩ = false ∧ w.frozen? ⟨g, 7, none⟩ = false) ∧ g < w.heap.size := by
  have hc := fun j => cell_of_row w g j _ _ _ hg
  have hf := fun j => frozen_of_row w g j _ _ hg
  refine ⟨⟨?_, ?_, ?_, ?_, ?_, ?_, ?_, ?_⟩, ⟨hf 0, hf 1, hf 2, hf 3, hf 4, hf 5, hf 6, hf 7⟩, (Array.getElem?_eq_some_iff.1 hg).1⟩
  · simpa using hc 0
  · simpa using hc 1
  · simpa using hc 2
  · simpa using hc 3
  · simpa using hc 4
  · simpa using hc 5
  · simpa using hc 6
  · simpa using hc 7

set_option maxRecDepth 100000 in
set_option maxHeartbeats 2000000 in
theorem dels_calls (w : World) (B : Nat) (base most : Int) (link0 p0 node : Int) (at0 : Bool) (key0 : Int) (reads0 : Nat) (over0 : Bool) (cell0 : Int) (r : Value) (left : List Int) (writes : Int) (hr : Reads w B r left) (hB : B ≤ w.heap.size) (hb : inB base most) (hx : at0 = true → leadsP most node) (hlk : cellOk link0) :
    Calls Try.prog 76 #[.int .i64 base, .agg #[.int .i64 link0, .int .i64 p0, .int .i64 node, .bool at0, .int .i64 key0, .int .i64 reads0, .bool over0, .int .i64 cell0], r, .int .i64 writes] w (Gives (delsS base ⟨link0, p0, node, at0, key0, reads0, over0, cell0⟩ left writes).val w) := by
  obtain ⟨hb0, hb1', hm0, hm1⟩ := hb
  obtain ⟨hlk0, hlk1⟩ := hlk
  cases at0 with
  | false =>
    rw [show delsS base ⟨link0, p0, node, false, key0, reads0, over0, cell0⟩ left writes = endS 0 1 from rfl]
    obtain ⟨hrl, hrr, a, c, rfl, hc, -⟩ := hr
    clear hrl hrr hx
    go_enter Try.func76, Try.ntmps76
    go_wp2_with fail
    refine (End_calls (0) (1) _).mono ?_
    rintro e w1 ⟨rfl, hb1⟩
    have hg1 := box_keep hb1 (show (World.heap _)[w.heap.size + 1]? = some (.cells #[.int .i64 0, .int .i64 0, .int .i64 0, .int .i64 0] 44 (0, 0)) from heap_new (by simp))
    obtain ⟨⟨d0, d1, d2, d3⟩, ⟨g0, g1, g2, g3⟩, hz⟩ := box4 hg1
    simp only [WantS.val]
    go_wp2
    exact bodyPost_ret (results_cell_row rfl _ _ _ _ _ _ _ rfl (heap_set (heap_set (heap_set (heap_set hg1)))) Try.underlying44 rfl infoWant) rfl ⟨rfl, close_ref (g := w.heap.size + 1) (by repeat (first | exact Below.refl _ _ | refine below_alloc_of ?_ _ | refine below_drewN_of ?_ _ | refine below_drew_of ?_)) (by omega) hb1⟩
  | true =>
    have hk := hx rfl
    clear hx
    rw [show delsS base ⟨link0, p0, node, true, key0, reads0, over0, cell0⟩ left writes = delsL base ⟨link0, p0, node, true, key0, reads0, over0, cell0⟩ left writes from rfl]
    rcases left with _ | ⟨q, _ | ⟨f, tl⟩⟩
    · obtain ⟨hrl, hrr, a, c, rfl, hc, -⟩ := hr
      clear hrl hrr
      simp only [List.length_nil]
      rw [show delsL base ⟨link0, p0, node, true, key0, reads0, over0, cell0⟩ [] writes = readS (base + linkI node) from rfl]
      go_enter Try.func76, Try.ntmps76
      obtain ⟨n0, n1⟩ := linkR hk hm1
      go_wp2_with fail
      refine (rlink_calls _ (node) (lead0 hk) (lead1 hk hm1)).mono ?_
      rintro e w' ⟨rfl, rfl⟩
      go_wp2_with fail
      refine (Read_calls (base + linkI node) _).mono ?_
      rintro e w1 ⟨rfl, hb1⟩
      have hg1 := box_keep hb1 (show (World.heap _)[w.heap.size + 1]? = some (.cells #[.int .i64 0, .int .i64 0, .int .i64 0, .int .i64 0] 44 (0, 0)) from heap_new (by simp))
      obtain ⟨⟨d0, d1, d2, d3⟩, ⟨g0, g1, g2, g3⟩, hz⟩ := box4 hg1
      simp only [WantS.val]
      go_wp2
      exact bodyPost_ret (results_cell_row rfl _ _ _ _ _ _ _ rfl (heap_set (heap_set (heap_set (heap_set hg1)))) Try.underlying44 rfl infoWant) rfl ⟨rfl, close_ref (g := w.heap.size + 1) (by repeat (first | exact Below.refl _ _ | refine below_alloc_of ?_ _ | refine below_drewN_of ?_ _ | refine below_drew_of ?_)) (by omega) hb1⟩
    · obtain ⟨b, off, c, rfl, hbs, hcc, hcl, c0, -⟩ := reads_at hr hB
      clear hr
      simp only [List.length_nil, Nat.zero_add] at hcc hcl ⊢
      have hbne : b ≠ w.heap.size := by omega
      have hbne1 : b ≠ w.heap.size + 1 := by omega
      by_cases hw0 : writes = 0
      · subst hw0
        rw [show delsL base ⟨link0, p0, node, true, key0, reads0, over0, cell0⟩ [q] 0 = putS (base + link0) q from rfl]
        have hsum : IntKind.i64.wrap (base + link0) = base + link0 := by rw [IntKind.wrap_i64]; omega
        go_enter Try.func76, Try.ntmps76
        go_wp2_with fail
        refine wp_region_still_tail 7 (by kernel_rfl) (by kernel_rfl) ?_
        change wpStill _ _ (World.drew _) (fun a' => wpList _ _ _ _ a' (World.drew _)) _ _
        simp only [List.take_succ_cons, List.take_zero, List.drop_succ_cons, List.drop_zero]
        repeat still_step
        refine wpStill_nil ?_
        go_wp2_with fail
        refine (Put_calls (base + link0) (q) _).mono ?_
        rintro e w1 ⟨rfl, hb1⟩
        have hg1 := box_keep hb1 (show (World.heap _)[w.heap.size + 1]? = some (.cells #[.int .i64 0, .int .i64 0, .int .i64 0, .int .i64 0] 44 (0, 0)) from heap_new (by simp))
        obtain ⟨⟨d0, d1, d2, d3⟩, ⟨g0, g1, g2, g3⟩, hz⟩ := box4 hg1
        simp only [WantS.val]
        go_wp2
        exact bodyPost_ret (results_cell_row rfl _ _ _ _ _ _ _ rfl (heap_set (heap_set (heap_set (heap_set hg1)))) Try.underlying44 rfl infoWant) rfl ⟨rfl, close_ref (g := w.heap.size + 1) (by repeat (first | exact Below.refl _ _ | refine below_alloc_of ?_ _ | refine below_drewN_of ?_ _ | refine below_drew_of ?_)) (by omega) hb1⟩
      have hw0' : (writes == 0) = false := by simpa using hw0
      rw [show delsL base ⟨link0, p0, node, true, key0, reads0, over0, cell0⟩ [q] writes = readS (base + 1) from if_neg hw0]
      clear hw0
      go_enter Try.func76, Try.ntmps76
      go_wp2_with fail
      refine (Read_calls (base + 1) _).mono ?_
      rintro e w1 ⟨rfl, hb1⟩
      have hg1 := box_keep hb1 (show (World.heap _)[w.heap.size + 1]? = some (.cells #[.int .i64 0, .int .i64 0, .int .i64 0, .int .i64 0] 44 (0, 0)) from heap_new (by simp))
      obtain ⟨⟨d0, d1, d2, d3⟩, ⟨g0, g1, g2, g3⟩, hz⟩ := box4 hg1
      simp only [WantS.val]
      go_wp2
      exact bodyPost_ret (results_cell_row rfl _ _ _ _ _ _ _ rfl (heap_set (heap_set (heap_set (heap_set hg1)))) Try.underlying44 rfl infoWant) rfl ⟨rfl, close_ref (g := w.heap.size + 1) (by repeat (first | exact Below.refl _ _ | refine below_alloc_of ?_ _ | refine below_drewN_of ?_ _ | refine below_drew_of ?_)) (by omega) hb1⟩
    · obtain ⟨b, off, c, rfl, hbs, hcc, hcl, c0, cs⟩ := reads_at hr hB
      have c1 := cs 0 (by simp)
      simp only [Nat.add_zero, List.getD_cons_zero] at c1
      clear hr cs
      simp only [List.length_cons] at hcc hcl ⊢
      generalize hn : tl.length = n at *
      have hn0 : ¬ ((n : Int) + 1 + 1 = 0) := by omega
      have hn1 : ¬ ((n : Int) + 1 + 1 = 1) := by omega
      have hi0 : (0 : Int) < (n : Int) + 1 + 1 := by omega
      have hi1 : (1 : Int) < (n : Int) + 1 + 1 := by omega
      clear hn
      have hbne : b ≠ w.heap.size := by omega
      have hbne1 : b ≠ w.heap.size + 1 := by omega
      by_cases hw0 : writes = 0
      · subst hw0
        rw [show delsL base ⟨link0, p0, node, true, key0, reads0, over0, cell0⟩ (q :: f :: tl) 0 = putS (base + link0) q from rfl]
        have hsum : IntKind.i64.wrap (base + link0) = base + link0 := by rw [IntKind.wrap_i64]; omega
        go_enter Try.func76, Try.ntmps76
        go_wp2_with fail
        refine wp_region_still_tail 7 (by kernel_rfl) (by kernel_rfl) ?_
        change wpStill _ _ (World.drew _) (fun a' => wpList _ _ _ _ a' (World.drew _)) _ _
        simp only [List.take_succ_cons, List.take_zero, List.drop_succ_cons, List.drop_zero]
        repeat still_step
        refine wpStill_nil ?_
        go_wp2_with fail
        refine (Put_calls (base + link0) (q) _).mono ?_
        rintro e w1 ⟨rfl, hb1⟩
        have hg1 := box_keep hb1 (show (World.heap _)[w.heap.size + 1]? = some (.cells #[.int .i64 0, .int .i64 0, .int .i64 0, .int .i64 0] 44 (0, 0)) from heap_new (by simp))
        obtain ⟨⟨d0, d1, d2, d3⟩, ⟨g0, g1, g2, g3⟩, hz⟩ := box4 hg1
        simp only [WantS.val]
        go_wp2
        exact bodyPost_ret (results_cell_row rfl _ _ _ _ _ _ _ rfl (heap_set (heap_set (heap_set (heap_set hg1)))) Try.underlying44 rfl infoWant) rfl ⟨rfl, close_ref (g := w.heap.size + 1) (by repeat (first | exact Below.refl _ _ | refine below_alloc_of ?_ _ | refine below_drewN_of ?_ _ | refine below_drew_of ?_)) (by omega) hb1⟩
      by_cases hw1 : writes = 1
      · subst hw1
        rw [show delsL base ⟨link0, p0, node, true, key0, reads0, over0, cell0⟩ (q :: f :: tl) 1 = putS (base + linkI node) f from rfl]
        obtain ⟨n0, n1⟩ := linkR hk hm1
        have hsum : IntKind.i64.wrap (base + linkI node) = base + linkI node := by rw [IntKind.wrap_i64]; omega
        go_enter Try.func76, Try.ntmps76
        go_wp2_with fail
        refine wp_region_still_tail 8 (by kernel_rfl) (by kernel_rfl) ?_
        change wpStill _ _ (World.drew _) (fun a' => wpList _ _ _ _ a' (World.drew _)) _ _
        simp only [List.take_succ_cons, List.take_zero, List.drop_succ_cons, List.drop_zero]
        repeat still_step
        still_call ((rlink_calls _ (node) (lead0 hk) (lead1 hk hm1)).mono fun _ _ h => ⟨h.1, h.2.symm⟩)
        repeat still_step
        refine wpStill_nil ?_
        go_wp2_with fail
        refine (Put_calls (base + linkI node) (f) _).mono ?_
        rintro e w1 ⟨rfl, hb1⟩
        have hg1 := box_keep hb1 (show (World.heap _)[w.heap.size + 1]? = some (.cells #[.int .i64 0, .int .i64 0, .int .i64 0, .int .i64 0] 44 (0, 0)) from heap_new (by simp))
        obtain ⟨⟨d0, d1, d2, d3⟩, ⟨g0, g1, g2, g3⟩, hz⟩ := box4 hg1
        simp only [WantS.val]
        go_wp2
        exact bodyPost_ret (results_cell_row rfl _ _ _ _ _ _ _ rfl (heap_set (heap_set (heap_set (heap_set hg1)))) Try.underlying44 rfl infoWant) rfl ⟨rfl, close_ref (g := w.heap.size + 1) (by repeat (first | exact Below.refl _ _ | refine below_alloc_of ?_ _ | refine below_drewN_of ?_ _ | refine below_drew_of ?_)) (by omega) hb1⟩
      by_cases hw2 : writes = 2
      · subst hw2
        rw [show delsL base ⟨link0, p0, node, true, key0, reads0, over0, cell0⟩ (q :: f :: tl) 2 = putS (base + 1) node from rfl]
        go_enter Try.func76, Try.ntmps76
        go_wp2_with fail
        refine (Put_calls (base + 1) (node) _).mono ?_
        rintro e w1 ⟨rfl, hb1⟩
        have hg1 := box_keep hb1 (show (World.heap _)[w.heap.size + 1]? = some (.cells #[.int .i64 0, .int .i64 0, .int .i64 0, .int .i64 0] 44 (0, 0)) from heap_new (by simp))
        obtain ⟨⟨d0, d1, d2, d3⟩, ⟨g0, g1, g2, g3⟩, hz⟩ := box4 hg1
        simp only [WantS.val]
        go_wp2
        exact bodyPost_ret (results_cell_row rfl _ _ _ _ _ _ _ rfl (heap_set (heap_set (heap_set (heap_set hg1)))) Try.underlying44 rfl infoWant) rfl ⟨rfl, close_ref (g := w.heap.size + 1) (by repeat (first | exact Below.refl _ _ | refine below_alloc_of ?_ _ | refine below_drewN_of ?_ _ | refine below_drew_of ?_)) (by omega) hb1⟩
      have hw0' : (writes == 0) = false := by simpa using hw0
      have hw1' : (writes == 1) = false := by simpa using hw1
      have hw2' : (writes == 2) = false := by simpa using hw2
      rw [show delsL base ⟨link0, p0, node, true, key0, reads0, over0, cell0⟩ (q :: f :: tl) writes = endS 0 0 from by rw [delsL_two, if_neg hw0, if_neg hw1, if_neg hw2]]
      clear hw0 hw1 hw2
      go_enter Try.func76, Try.ntmps76
      go_wp2_with fail
      refine (End_calls (0) (0) _).mono ?_
      rintro e w1 ⟨rfl, hb1⟩
      have hg1 := box_keep hb1 (show (World.heap _)[w.heap.size + 1]? = some (.cells #[.int .i64 0, .int .i64 0, .int .i64 0, .int .i64 0] 44 (0, 0)) from heap_new (by simp))
      obtain ⟨⟨d0, d1, d2, d3⟩, ⟨g0, g1, g2, g3⟩, hz⟩ := box4 hg1
      simp only [WantS.val]
      go_wp2
      exact bodyPost_ret (results_cell_row rfl _ _ _ _ _ _ _ rfl (heap_set (heap_set (heap_set (heap_set hg1)))) Try.underlying44 rfl infoWant) rfl ⟨rfl, close_ref (g := w.heap.size + 1) (by repeat (first | exact Below.refl _ _ | refine below_alloc_of ?_ _ | refine below_drewN_of ?_ _ | refine below_drew_of ?_)) (by omega) hb1⟩

set_option maxRecDepth 100000 in
set_option maxHeartbeats 8000000 in
theorem adds_calls (w : World) (B : Nat) (base most key : Int) (link0 p0 node : Int) (at0 : Bool) (key0 : Int) (reads0 : Nat) (over0 : Bool) (cell0 : Int) (r : Value) (left : List Int) (writes : Int) (hr : Reads w B r left) (hB : B ≤ w.heap.size) (hb : inB base most) (hlk : cellOk link0) :
    Calls Try.prog 75 #[.int .i64 base, .int .i64 most, .int .i64 key, .agg #[.int .i64 link0, .int .i64 p0, .int .i64 node, .bool at0, .int .i64 key0, .int .i64 reads0, .bool over0, .int .i64 cell0], r, .int .i64 writes] w (Gives (addsS base most key ⟨link0, p0, node, at0, key0, reads0, over0, cell0⟩ left writes).val w) := by
  obtain ⟨hb0, hb1', hm0, hm1⟩ := hb
  obtain ⟨hlk0, hlk1⟩ := hlk
  cases at0 with
  | true =>
    rw [show addsS base most key ⟨link0, p0, node, true, key0, reads0, over0, cell0⟩ left writes = endS 0 3 from rfl]
    obtain ⟨hrl, hrr, a, c, rfl, hc, -⟩ := hr
    clear hrl hrr
    go_enter Try.func75, Try.ntmps75
    go_wp2_with fail
    refine (End_calls (0) (3) _).mono ?_
    rintro e w1 ⟨rfl, hb1⟩
    have hg1 := box_keep hb1 (show (World.heap _)[w.heap.size + 1]? = some (.cells #[.int .i64 0, .int .i64 0, .int .i64 0, .int .i64 0] 44 (0, 0)) from heap_new (by simp))
    obtain ⟨⟨d0, d1, d2, d3⟩, ⟨g0, g1, g2, g3⟩, hz⟩ := box4 hg1
    simp only [WantS.val]
    go_wp2
    exact bodyPost_ret (results_cell_row rfl _ _ _ _ _ _ _ rfl (heap_set (heap_set (heap_set (heap_set hg1)))) Try.underlying44 rfl infoWant) rfl ⟨rfl, close_ref (g := w.heap.size + 1) (by repeat (first | exact Below.refl _ _ | refine below_alloc_of ?_ _ | refine below_drewN_of ?_ _ | refine below_drew_of ?_)) (by omega) hb1⟩
  | false =>
    rw [show addsS base most key ⟨link0, p0, node, false, key0, reads0, over0, cell0⟩ left writes = addsL base most key ⟨link0, p0, node, false, key0, reads0, over0, cell0⟩ left writes from rfl]
    rcases left with _ | ⟨f, _ | ⟨q, tl⟩⟩
    · obtain ⟨hrl, hrr, a, c, rfl, hc, -⟩ := hr
      clear hrl hrr
      simp only [List.length_nil]
      rw [show addsL base most key ⟨link0, p0, node, false, key0, reads0, over0, cell0⟩ [] writes = readS (base + 1) from rfl]
      go_enter Try.func75, Try.ntmps75
      go_wp2_with fail
      refine (Read_calls (base + 1) _).mono ?_
      rintro e w1 ⟨rfl, hb1⟩
      have hg1 := box_keep hb1 (show (World.heap _)[w.heap.size + 1]? = some (.cells #[.int .i64 0, .int .i64 0, .int .i64 0, .int .i64 0] 44 (0, 0)) from heap_new (by simp))
      obtain ⟨⟨d0, d1, d2, d3⟩, ⟨g0, g1, g2, g3⟩, hz⟩ := box4 hg1
      simp only [WantS.val]
      go_wp2
      exact bodyPost_ret (results_cell_row rfl _ _ _ _ _ _ _ rfl (heap_set (heap_set (heap_set (heap_set hg1)))) Try.underlying44 rfl infoWant) rfl ⟨rfl, close_ref (g := w.heap.size + 1) (by repeat (first | exact Below.refl _ _ | refine below_alloc_of ?_ _ | refine below_drewN_of ?_ _ | refine below_drew_of ?_)) (by omega) hb1⟩
    · obtain ⟨b, off, c, rfl, hbs, hcc, hcl, c0, -⟩ := reads_at hr hB
      clear hr
      simp only [List.length_nil, Nat.zero_add] at hcc hcl ⊢
      have hbne : b ≠ w.heap.size := by omega
      have hbne1 : b ≠ w.heap.size + 1 := by omega
      by_cases hl : leadsP most f
      · have hp0 : 0 < f := by unfold leadsP at hl; omega
        rw [show addsL base most key ⟨link0, p0, node, false, key0, reads0, over0, cell0⟩ [f] writes = readS (base + linkI f) from if_pos hl]
        go_enter Try.func75, Try.ntmps75
        go_wp2_with fail
        refine (rleads_t hl).mono ?_
        rintro e w' ⟨rfl, rfl⟩
        obtain ⟨n0, n1⟩ := linkR hl hm1
        go_wp2_with fail
        refine (rlink_calls _ (f) (lead0 hl) (lead1 hl hm1)).mono ?_
        rintro e w' ⟨rfl, rfl⟩
        go_wp2_with fail
        refine (Read_calls (base + linkI f) _).mono ?_
        rintro e w1 ⟨rfl, hb1⟩
        have hg1 := box_keep hb1 (show (World.heap _)[w.heap.size + 1]? = some (.cells #[.int .i64 0, .int .i64 0, .int .i64 0, .int .i64 0] 44 (0, 0)) from heap_old (heap_new (by simp)))
        obtain ⟨⟨d0, d1, d2, d3⟩, ⟨g0, g1, g2, g3⟩, hz⟩ := box4 hg1
        simp only [WantS.val]
        go_wp2
        exact bodyPost_ret (results_cell_row rfl _ _ _ _ _ _ _ rfl (heap_set (heap_set (heap_set (heap_set hg1)))) Try.underlying44 rfl infoWant) rfl ⟨rfl, close_ref (g := w.heap.size + 1) (by repeat (first | exact Below.refl _ _ | refine below_alloc_of ?_ _ | refine below_drewN_of ?_ _ | refine below_drew_of ?_)) (by omega) hb1⟩
      · rw [show addsL base most key ⟨link0, p0, node, false, key0, reads0, over0, cell0⟩ [f] writes = readS (base + 2) from if_neg hl]
        go_enter Try.func75, Try.ntmps75
        go_wp2_with fail
        refine (rleads_f hl).mono ?_
        rintro e w' ⟨rfl, rfl⟩
        go_wp2_with fail
        refine (Read_calls (base + 2) _).mono ?_
        rintro e w1 ⟨rfl, hb1⟩
        have hg1 := box_keep hb1 (show (World.heap _)[w.heap.size + 1]? = some (.cells #[.int .i64 0, .int .i64 0, .int .i64 0, .int .i64 0] 44 (0, 0)) from heap_old (heap_new (by simp)))
        obtain ⟨⟨d0, d1, d2, d3⟩, ⟨g0, g1, g2, g3⟩, hz⟩ := box4 hg1
        simp only [WantS.val]
        go_wp2
        exact bodyPost_ret (results_cell_row rfl _ _ _ _ _ _ _ rfl (heap_set (heap_set (heap_set (heap_set hg1)))) Try.underlying44 rfl infoWant) rfl ⟨rfl, close_ref (g := w.heap.size + 1) (by repeat (first | exact Below.refl _ _ | refine below_alloc_of ?_ _ | refine below_drewN_of ?_ _ | refine below_drew_of ?_)) (by omega) hb1⟩
    · obtain ⟨b, off, c, rfl, hbs, hcc, hcl, c0, cs⟩ := reads_at hr hB
      have c1 := cs 0 (by simp)
      simp only [Nat.add_zero, List.getD_cons_zero] at c1
      clear hr cs
      simp only [List.length_cons] at hcc hcl ⊢
      generalize hn : tl.length = n at *
      have hn0 : ¬ ((n : Int) + 1 + 1 = 0) := by omega
      have hn1 : ¬ ((n : Int) + 1 + 1 = 1) := by omega
      have hi0 : (0 : Int) < (n : Int) + 1 + 1 := by omega
      have hi1 : (1 : Int) < (n : Int) + 1 + 1 := by omega
      clear hn
      have hbne : b ≠ w.heap.size := by omega
      have hbne1 : b ≠ w.heap.size + 1 := by omega
      have k1 : ∀ o1 o2 o3, (((w.alloc o1).alloc o2).alloc o3).cell? ⟨b, off + 1, none⟩ = some (.int .i64 q) := fun o1 o2 o3 => by
        rw [World.cell?_alloc_lt _ _ _ (by simp; omega), World.cell?_alloc_lt _ _ _ (by simp; omega), World.cell?_alloc_lt _ _ _ hbs]
        exact c1
      by_cases hl : leadsP most f
      · have hp0 : 0 < f := by unfold leadsP at hl; omega
        have hl2 := hl
        by_cases hw0 : writes = 0
        · subst hw0
          rw [show addsL base most key ⟨link0, p0, node, false, key0, reads0, over0, cell0⟩ (f :: q :: tl) 0 = putS (base + 1) (q) from by rw [addsL_two, if_pos hl]; rfl]
          go_enter Try.func75, Try.ntmps75
          go_wp2_with fail
          refine (rleads_t hl).mono ?_
          rintro e w' ⟨rfl, rfl⟩
          go_wp2_with fail
          refine (Put_calls (base + 1) (q) _).mono ?_
          rintro e w1 ⟨rfl, hb1⟩
          have hgx := box_keep hb1 (show (World.heap _)[w.heap.size]? = some (.cells #[.int .i64 link0, .int .i64 p0, .int .i64 node, .bool false, .int .i64 key0, .int .i64 reads0, .bool over0, .int .i64 cell0] 86 (0, 0)) from heap_old (heap_old (heap_new (by simp))))
          have hgr := box_keep hb1 (show (World.heap _)[w.heap.size + 1]? = some (.cells #[.int .i64 0, .int .i64 0, .int .i64 0, .int .i64 0] 44 (0, 0)) from heap_old (heap_new (by simp)))
          have hgf := box_keep hb1 (show (World.heap _)[w.heap.size + 2]? = some (.cells #[.int .i64 0, .int .i64 0, .int .i64 0, .int .i64 0] 44 (0, 0)) from heap_new (by simp))
          obtain ⟨⟨x0, x1, x2, x3, x4, x5, x6, x7⟩, -, hzx⟩ := box8 hgx
          obtain ⟨⟨r0, r1, r2, r3⟩, ⟨s0, s1, s2, s3⟩, hzr⟩ := box4 hgr
          obtain ⟨⟨y0, y1, y2, y3⟩, ⟨t0, t1, t2, t3⟩, hzf⟩ := box4 hgf
          have HGR := Lib.hid hgr
          have bel1 := fun a b c d => close_ref (w := w) (a := a) (b := b) (c := c) (d := d) (g := w.heap.size + 2) (by repeat (first | exact Below.refl _ _ | refine below_alloc_of ?_ _ | refine below_drewN_of ?_ _ | refine below_drew_of ?_)) (by omega) hb1
          have BEL1 := Lib.hid bel1
          clear hgx hgr hgf hb1 bel1
          simp only [WantS.val]
          go_wp2
          exact bodyPost_ret (results_cell_row rfl _ _ _ _ _ _ _ rfl (heap_set (heap_set (heap_set (heap_set (heap_set_other (heap_set_other (heap_set_other (heap_set_other HGR.out (by simp)) (by simp)) (by simp)) (by simp)))))) Try.underlying44 rfl infoWant) rfl ⟨rfl, ((((BEL1.out _ _ _ _).setCell (by simp) _).setCell (by simp) _).setCell (by simp) _).setCell (by simp) _⟩
        by_cases hw1 : writes = 1
        · subst hw1
          rw [show addsL base most key ⟨link0, p0, node, false, key0, reads0, over0, cell0⟩ (f :: q :: tl) 1 = putS (base + keyI f) key from by rw [addsL_two, if_pos hl]; rfl]
          obtain ⟨n0, n1⟩ := keyR hl2 hm1
          go_enter Try.func75, Try.ntmps75
          go_wp2_with fail
          refine (rleads_t hl).mono ?_
          rintro e w' ⟨rfl, rfl⟩
          go_wp2_with fail
          refine (Put_calls (base + 1) (q) _).mono ?_
          rintro e w1 ⟨rfl, hb1⟩
          have hgx := box_keep hb1 (show (World.heap _)[w.heap.size]? = some (.cells #[.int .i64 link0, .int .i64 p0, .int .i64 node, .bool false, .int .i64 key0, .int .i64 reads0, .bool over0, .int .i64 cell0] 86 (0, 0)) from heap_old (heap_old (heap_new (by simp))))
          have hgr := box_keep hb1 (show (World.heap _)[w.heap.size + 1]? = some (.cells #[.int .i64 0, .int .i64 0, .int .i64 0, .int .i64 0] 44 (0, 0)) from heap_old (heap_new (by simp)))
          have hgf := box_keep hb1 (show (World.heap _)[w.heap.size + 2]? = some (.cells #[.int .i64 0, .int .i64 0, .int .i64 0, .int .i64 0] 44 (0, 0)) from heap_new (by simp))
          obtain ⟨⟨x0, x1, x2, x3, x4, x5, x6, x7⟩, -, hzx⟩ := box8 hgx
          obtain ⟨⟨r0, r1, r2, r3⟩, ⟨s0, s1, s2, s3⟩, hzr⟩ := box4 hgr
          obtain ⟨⟨y0, y1, y2, y3⟩, ⟨t0, t1, t2, t3⟩, hzf⟩ := box4 hgf
          have HGR := Lib.hid hgr
          have bel1 := fun a b c d => close_ref (w := w) (a := a) (b := b) (c := c) (d := d) (g := w.heap.size + 2) (by repeat (first | exact Below.refl _ _ | refine below_alloc_of ?_ _ | refine below_drewN_of ?_ _ | refine below_drew_of ?_)) (by omega) hb1
          have BEL1 := Lib.hid bel1
          clear hgx hgr hgf hb1 bel1
          simp only [WantS.val]
          go_wp2_with fail
          refine (rkey_calls _ (f) (lead0 hl2) (lead1 hl2 hm1)).mono ?_
          rintro e w' ⟨rfl, rfl⟩
          go_wp2_with fail
          refine (Put_calls (base + keyI f) (key) _).mono ?_
          rintro e w2 ⟨rfl, hb2⟩
          have hg2 := box_keep hb2 (show (World.heap _)[w.heap.size + 1]? = some (.cells #[.int .i64 0, .int .i64 0, .int .i64 0, .int .i64 0] 44 (0, 0)) from (heap_set_other (heap_set_other (heap_set_other (heap_set_other HGR.out (by simp)) (by simp)) (by simp)) (by simp)))
          obtain ⟨⟨d0, d1, d2, d3⟩, ⟨g0, g1, g2, g3⟩, hz⟩ := box4 hg2
          simp only [WantS.val]
          go_wp2
          exact bodyPost_ret (results_cell_row rfl _ _ _ _ _ _ _ rfl (heap_set (heap_set (heap_set (heap_set hg2)))) Try.underlying44 rfl infoWant) rfl ⟨rfl, close_ref (g := w.heap.size + 1) (by first | exact BEL1.out _ _ _ _ | exact below_drew_of (BEL1.out _ _ _ _) | exact below_drewN_of (BEL1.out _ _ _ _) _) (by omega) hb2⟩
        by_cases hw2 : writes = 2
        · subst hw2
          rw [show addsL base most key ⟨link0, p0, node, false, key0, reads0, over0, cell0⟩ (f :: q :: tl) 2 = putS (base + linkI f) p0 from by rw [addsL_two, if_pos hl]; rfl]
          obtain ⟨n0, n1⟩ := linkR hl2 hm1
          have hsum : IntKind.i64.wrap (base + linkI f) = base + linkI f := by rw [IntKind.wrap_i64]; omega
          go_enter Try.func75, Try.ntmps75
          go_wp2_with fail
          refine (rleads_t hl).mono ?_
          rintro e w' ⟨rfl, rfl⟩
          go_wp2_with fail
          refine (Put_calls (base + 1) (q) _).mono ?_
          rintro e w1 ⟨rfl, hb1⟩
          have hgx := box_keep hb1 (show (World.heap _)[w.heap.size]? = some (.cells #[.int .i64 link0, .int .i64 p0, .int .i64 node, .bool false, .int .i64 key0, .int .i64 reads0, .bool over0, .int .i64 cell0] 86 (0, 0)) from heap_old (heap_old (heap_new (by simp))))
          have hgr := box_keep hb1 (show (World.heap _)[w.heap.size + 1]? = some (.cells #[.int .i64 0, .int .i64 0, .int .i64 0, .int .i64 0] 44 (0, 0)) from heap_old (heap_new (by simp)))
          have hgf := box_keep hb1 (show (World.heap _)[w.heap.size + 2]? = some (.cells #[.int .i64 0, .int .i64 0, .int .i64 0, .int .i64 0] 44 (0, 0)) from heap_new (by simp))
          obtain ⟨⟨x0, x1, x2, x3, x4, x5, x6, x7⟩, -, hzx⟩ := box8 hgx
          obtain ⟨⟨r0, r1, r2, r3⟩, ⟨s0, s1, s2, s3⟩, hzr⟩ := box4 hgr
          obtain ⟨⟨y0, y1, y2, y3⟩, ⟨t0, t1, t2, t3⟩, hzf⟩ := box4 hgf
          have HGR := Lib.hid hgr
          have bel1 := fun a b c d => close_ref (w := w) (a := a) (b := b) (c := c) (d := d) (g := w.heap.size + 2) (by repeat (first | exact Below.refl _ _ | refine below_alloc_of ?_ _ | refine below_drewN_of ?_ _ | refine below_drew_of ?_)) (by omega) hb1
          have BEL1 := Lib.hid bel1
          clear hgx hgr hgf hb1 bel1
          simp only [WantS.val]
          go_wp2_with fail
          refine wp_region_still_tail 6 (by kernel_rfl) (by kernel_rfl) ?_
          change wpStill _ _ (World.drew _) (fun a' => wpList _ _ _ _ a' (World.drew _)) _ _
          simp only [List.take_succ_cons, List.take_zero, List.drop_succ_cons, List.drop_zero]
          repeat still_step
          still_call ((rlink_calls _ (f) (lead0 hl2) (lead1 hl2 hm1)).mono fun _ _ h => ⟨h.1, h.2.symm⟩)
          repeat still_step
          refine wpStill_nil ?_
          go_wp2_with fail
          refine (Put_calls (base + linkI f) (p0) _).mono ?_
          rintro e w2 ⟨rfl, hb2⟩
          have hg2 := box_keep hb2 (show (World.heap _)[w.heap.size + 1]? = some (.cells #[.int .i64 0, .int .i64 0, .int .i64 0, .int .i64 0] 44 (0, 0)) from (heap_set_other (heap_set_other (heap_set_other (heap_set_other HGR.out (by simp)) (by simp)) (by simp)) (by simp)))
          obtain ⟨⟨d0, d1, d2, d3⟩, ⟨g0, g1, g2, g3⟩, hz⟩ := box4 hg2
          simp only [WantS.val]
          go_wp2
          exact bodyPost_ret (results_cell_row rfl _ _ _ _ _ _ _ rfl (heap_set (heap_set (heap_set (heap_set hg2)))) Try.underlying44 rfl infoWant) rfl ⟨rfl, close_ref (g := w.heap.size + 1) (by first | exact BEL1.out _ _ _ _ | exact below_drew_of (BEL1.out _ _ _ _) | exact below_drewN_of (BEL1.out _ _ _ _) _) (by omega) hb2⟩
        by_cases hw3 : writes = 3
        · subst hw3
          rw [show addsL base most key ⟨link0, p0, node, false, key0, reads0, over0, cell0⟩ (f :: q :: tl) 3 = putS (base + link0) f from by rw [addsL_two, if_pos hl]; rfl]
          go_enter Try.func75, Try.ntmps75
          go_wp2_with fail
          refine (rleads_t hl).mono ?_
          rintro e w' ⟨rfl, rfl⟩
          go_wp2_with fail
          refine (Put_calls (base + 1) (q) _).mono ?_
          rintro e w1 ⟨rfl, hb1⟩
          have hgx := box_keep hb1 (show (World.heap _)[w.heap.size]? = some (.cells #[.int .i64 link0, .int .i64 p0, .int .i64 node, .bool false, .int .i64 key0, .int .i64 reads0, .bool over0, .int .i64 cell0] 86 (0, 0)) from heap_old (heap_old (heap_new (by simp))))
          have hgr := box_keep hb1 (show (World.heap _)[w.heap.size + 1]? = some (.cells #[.int .i64 0, .int .i64 0, .int .i64 0, .int .i64 0] 44 (0, 0)) from heap_old (heap_new (by simp)))
          have hgf := box_keep hb1 (show (World.heap _)[w.heap.size + 2]? = some (.cells #[.int .i64 0, .int .i64 0, .int .i64 0, .int .i64 0] 44 (0, 0)) from heap_new (by simp))
          obtain ⟨⟨x0, x1, x2, x3, x4, x5, x6, x7⟩, -, hzx⟩ := box8 hgx
          obtain ⟨⟨r0, r1, r2, r3⟩, ⟨s0, s1, s2, s3⟩, hzr⟩ := box4 hgr
          obtain ⟨⟨y0, y1, y2, y3⟩, ⟨t0, t1, t2, t3⟩, hzf⟩ := box4 hgf
          have HGR := Lib.hid hgr
          have bel1 := fun a b c d => close_ref (w := w) (a := a) (b := b) (c := c) (d := d) (g := w.heap.size + 2) (by repeat (first | exact Below.refl _ _ | refine below_alloc_of ?_ _ | refine below_drewN_of ?_ _ | refine below_drew_of ?_)) (by omega) hb1
          have BEL1 := Lib.hid bel1
          clear hgx hgr hgf hb1 bel1
          simp only [WantS.val]
          go_wp2_with fail
          refine (Put_calls (base + link0) (f) _).mono ?_
          rintro e w2 ⟨rfl, hb2⟩
          have hg2 := box_keep hb2 (show (World.heap _)[w.heap.size + 1]? = some (.cells #[.int .i64 0, .int .i64 0, .int .i64 0, .int .i64 0] 44 (0, 0)) from (heap_set_other (heap_set_other (heap_set_other (heap_set_other HGR.out (by simp)) (by simp)) (by simp)) (by simp)))
          obtain ⟨⟨d0, d1, d2, d3⟩, ⟨g0, g1, g2, g3⟩, hz⟩ := box4 hg2
          simp only [WantS.val]
          go_wp2
          exact bodyPost_ret (results_cell_row rfl _ _ _ _ _ _ _ rfl (heap_set (heap_set (heap_set (heap_set hg2)))) Try.underlying44 rfl infoWant) rfl ⟨rfl, close_ref (g := w.heap.size + 1) (by first | exact BEL1.out _ _ _ _ | exact below_drew_of (BEL1.out _ _ _ _) | exact below_drewN_of (BEL1.out _ _ _ _) _) (by omega) hb2⟩
        have hw0' : (writes == 0) = false := by simpa using hw0
        have hw1' : (writes == 1) = false := by simpa using hw1
        have hw2' : (writes == 2) = false := by simpa using hw2
        have hw3' : (writes == 3) = false := by simpa using hw3
        rw [show addsL base most key ⟨link0, p0, node, false, key0, reads0, over0, cell0⟩ (f :: q :: tl) writes = endS 0 0 from by rw [addsL_two, if_pos hl]; unfold addsW; rw [if_neg hw0, if_neg hw1, if_neg hw2, if_neg hw3]]
        clear hw0 hw1 hw2 hw3
        go_enter Try.func75, Try.ntmps75
        go_wp2_with fail
        refine (rleads_t hl).mono ?_
        rintro e w' ⟨rfl, rfl⟩
        go_wp2_with fail
        refine (Put_calls (base + 1) (q) _).mono ?_
        rintro e w1 ⟨rfl, hb1⟩
        have hgx := box_keep hb1 (show (World.heap _)[w.heap.size]? = some (.cells #[.int .i64 link0, .int .i64 p0, .int .i64 node, .bool false, .int .i64 key0, .int .i64 reads0, .bool over0, .int .i64 cell0] 86 (0, 0)) from heap_old (heap_old (heap_new (by simp))))
        have hgr := box_keep hb1 (show (World.heap _)[w.heap.size + 1]? = some (.cells #[.int .i64 0, .int .i64 0, .int .i64 0, .int .i64 0] 44 (0, 0)) from heap_old (heap_new (by simp)))
        have hgf := box_keep hb1 (show (World.heap _)[w.heap.size + 2]? = some (.cells #[.int .i64 0, .int .i64 0, .int .i64 0, .int .i64 0] 44 (0, 0)) from heap_new (by simp))
        obtain ⟨⟨x0, x1, x2, x3, x4, x5, x6, x7⟩, -, hzx⟩ := box8 hgx
        obtain ⟨⟨r0, r1, r2, r3⟩, ⟨s0, s1, s2, s3⟩, hzr⟩ := box4 hgr
        obtain ⟨⟨y0, y1, y2, y3⟩, ⟨t0, t1, t2, t3⟩, hzf⟩ := box4 hgf
        have HGR := Lib.hid hgr
        have bel1 := fun a b c d => close_ref (w := w) (a := a) (b := b) (c := c) (d := d) (g := w.heap.size + 2) (by repeat (first | exact Below.refl _ _ | refine below_alloc_of ?_ _ | refine below_drewN_of ?_ _ | refine below_drew_of ?_)) (by omega) hb1
        have BEL1 := Lib.hid bel1
        clear hgx hgr hgf hb1 bel1
        simp only [WantS.val]
        go_wp2_with fail
        refine (End_calls (0) (0) _).mono ?_
        rintro e w2 ⟨rfl, hb2⟩
        have hg2 := box_keep hb2 (show (World.heap _)[w.heap.size + 1]? = some (.cells #[.int .i64 0, .int .i64 0, .int .i64 0, .int .i64 0] 44 (0, 0)) from (heap_set_other (heap_set_other (heap_set_other (heap_set_other HGR.out (by simp)) (by simp)) (by simp)) (by simp)))
        obtain ⟨⟨d0, d1, d2, d3⟩, ⟨g0, g1, g2, g3⟩, hz⟩ := box4 hg2
        simp only [WantS.val]
        go_wp2
        exact bodyPost_ret (results_cell_row rfl _ _ _ _ _ _ _ rfl (heap_set (heap_set (heap_set (heap_set hg2)))) Try.underlying44 rfl infoWant) rfl ⟨rfl, close_ref (g := w.heap.size + 1) (by first | exact BEL1.out _ _ _ _ | exact below_drew_of (BEL1.out _ _ _ _) | exact below_drewN_of (BEL1.out _ _ _ _) _) (by omega) hb2⟩
      · rcases (show q < 0 ∨ (0 ≤ q ∧ most ≤ q) ∨ (0 ≤ q ∧ q < most) from by omega) with hq | ⟨hq, hq2⟩ | ⟨hq, hq2⟩
        · rw [show addsL base most key ⟨link0, p0, node, false, key0, reads0, over0, cell0⟩ (f :: q :: tl) writes = endS 0 2 from by rw [addsL_two, if_neg hl, if_pos (.inl hq)]]
          go_enter Try.func75, Try.ntmps75
          go_wp2_with fail
          refine (rleads_f hl).mono ?_
          rintro e w' ⟨rfl, rfl⟩
          go_wp2_with fail
          refine (End_calls (0) (2) _).mono ?_
          rintro e w1 ⟨rfl, hb1⟩
          have hg1 := box_keep hb1 (show (World.heap _)[w.heap.size + 1]? = some (.cells #[.int .i64 0, .int .i64 0, .int .i64 0, .int .i64 0] 44 (0, 0)) from heap_old (heap_new (by simp)))
          obtain ⟨⟨d0, d1, d2, d3⟩, ⟨g0, g1, g2, g3⟩, hz⟩ := box4 hg1
          simp only [WantS.val]
          go_wp2
          exact bodyPost_ret (results_cell_row rfl _ _ _ _ _ _ _ rfl (heap_set (heap_set (heap_set (heap_set hg1)))) Try.underlying44 rfl infoWant) rfl ⟨rfl, close_ref (g := w.heap.size + 1) (by repeat (first | exact Below.refl _ _ | refine below_alloc_of ?_ _ | refine below_drewN_of ?_ _ | refine below_drew_of ?_)) (by omega) hb1⟩
        · rw [show addsL base most key ⟨link0, p0, node, false, key0, reads0, over0, cell0⟩ (f :: q :: tl) writes = endS 0 2 from by rw [addsL_two, if_neg hl, if_pos (.inr hq2)]]
          go_enter Try.func75, Try.ntmps75
          go_wp2_with fail
          refine (rleads_f hl).mono ?_
          rintro e w' ⟨rfl, rfl⟩
          go_wp2_with fail
          refine (End_calls (0) (2) _).mono ?_
          rintro e w1 ⟨rfl, hb1⟩
          have hg1 := box_keep hb1 (show (World.heap _)[w.heap.size + 1]? = some (.cells #[.int .i64 0, .int .i64 0, .int .i64 0, .int .i64 0] 44 (0, 0)) from heap_old (heap_new (by simp)))
          obtain ⟨⟨d0, d1, d2, d3⟩, ⟨g0, g1, g2, g3⟩, hz⟩ := box4 hg1
          simp only [WantS.val]
          go_wp2
          exact bodyPost_ret (results_cell_row rfl _ _ _ _ _ _ _ rfl (heap_set (heap_set (heap_set (heap_set hg1)))) Try.underlying44 rfl infoWant) rfl ⟨rfl, close_ref (g := w.heap.size + 1) (by repeat (first | exact Below.refl _ _ | refine below_alloc_of ?_ _ | refine below_drewN_of ?_ _ | refine below_drew_of ?_)) (by omega) hb1⟩
        · have hl2 : leadsP most (q + 1) := by unfold leadsP; omega
          by_cases hw0 : writes = 0
          · subst hw0
            rw [show addsL base most key ⟨link0, p0, node, false, key0, reads0, over0, cell0⟩ (f :: q :: tl) 0 = putS (base + 2) (q + 1) from by rw [addsL_two, if_neg hl, if_neg (show ¬ (q < 0 ∨ most ≤ q) by omega)]; rfl]
            go_enter Try.func75, Try.ntmps75
            go_wp2_with fail
            refine (rleads_f hl).mono ?_
            rintro e w' ⟨rfl, rfl⟩
            go_wp2_with fail
            refine (Put_calls (base + 2) (q + 1) _).mono ?_
            rintro e w1 ⟨rfl, hb1⟩
            have hgx := box_keep hb1 (show (World.heap _)[w.heap.size]? = some (.cells #[.int .i64 link0, .int .i64 p0, .int .i64 node, .bool false, .int .i64 key0, .int .i64 reads0, .bool over0, .int .i64 cell0] 86 (0, 0)) from heap_old (heap_old (heap_new (by simp))))
            have hgr := box_keep hb1 (show (World.heap _)[w.heap.size + 1]? = some (.cells #[.int .i64 0, .int .i64 0, .int .i64 0, .int .i64 0] 44 (0, 0)) from heap_old (heap_new (by simp)))
            have hgf := box_keep hb1 (show (World.heap _)[w.heap.size + 2]? = some (.cells #[.int .i64 0, .int .i64 0, .int .i64 0, .int .i64 0] 44 (0, 0)) from heap_new (by simp))
            obtain ⟨⟨x0, x1, x2, x3, x4, x5, x6, x7⟩, -, hzx⟩ := box8 hgx
            obtain ⟨⟨r0, r1, r2, r3⟩, ⟨s0, s1, s2, s3⟩, hzr⟩ := box4 hgr
            obtain ⟨⟨y0, y1, y2, y3⟩, ⟨t0, t1, t2, t3⟩, hzf⟩ := box4 hgf
            have HGR := Lib.hid hgr
            have bel1 := fun a b c d => close_ref (w := w) (a := a) (b := b) (c := c) (d := d) (g := w.heap.size + 2) (by repeat (first | exact Below.refl _ _ | refine below_alloc_of ?_ _ | refine below_drewN_of ?_ _ | refine below_drew_of ?_)) (by omega) hb1
            have BEL1 := Lib.hid bel1
            clear hgx hgr hgf hb1 bel1
            simp only [WantS.val]
            go_wp2
            exact bodyPost_ret (results_cell_row rfl _ _ _ _ _ _ _ rfl (heap_set (heap_set (heap_set (heap_set (heap_set_other (heap_set_other (heap_set_other (heap_set_other HGR.out (by simp)) (by simp)) (by simp)) (by simp)))))) Try.underlying44 rfl infoWant) rfl ⟨rfl, ((((BEL1.out _ _ _ _).setCell (by simp) _).setCell (by simp) _).setCell (by simp) _).setCell (by simp) _⟩
          by_cases hw1 : writes = 1
          · subst hw1
            rw [show addsL base most key ⟨link0, p0, node, false, key0, reads0, over0, cell0⟩ (f :: q :: tl) 1 = putS (base + keyI (q + 1)) key from by rw [addsL_two, if_neg hl, if_neg (show ¬ (q < 0 ∨ most ≤ q) by omega)]; rfl]
            obtain ⟨n0, n1⟩ := keyR hl2 hm1
            go_enter Try.func75, Try.ntmps75
            go_wp2_with fail
            refine (rleads_f hl).mono ?_
            rintro e w' ⟨rfl, rfl⟩
            go_wp2_with fail
            refine (Put_calls (base + 2) (q + 1) _).mono ?_
            rintro e w1 ⟨rfl, hb1⟩
            have hgx := box_keep hb1 (show (World.heap _)[w.heap.size]? = some (.cells #[.int .i64 link0, .int .i64 p0, .int .i64 node, .bool false, .int .i64 key0, .int .i64 reads0, .bool over0, .int .i64 cell0] 86 (0, 0)) from heap_old (heap_old (heap_new (by simp))))
            have hgr := box_keep hb1 (show (World.heap _)[w.heap.size + 1]? = some (.cells #[.int .i64 0, .int .i64 0, .int .i64 0, .int .i64 0] 44 (0, 0)) from heap_old (heap_new (by simp)))
            have hgf := box_keep hb1 (show (World.heap _)[w.heap.size + 2]? = some (.cells #[.int .i64 0, .int .i64 0, .int .i64 0, .int .i64 0] 44 (0, 0)) from heap_new (by simp))
            obtain ⟨⟨x0, x1, x2, x3, x4, x5, x6, x7⟩, -, hzx⟩ := box8 hgx
            obtain ⟨⟨r0, r1, r2, r3⟩, ⟨s0, s1, s2, s3⟩, hzr⟩ := box4 hgr
            obtain ⟨⟨y0, y1, y2, y3⟩, ⟨t0, t1, t2, t3⟩, hzf⟩ := box4 hgf
            have HGR := Lib.hid hgr
            have bel1 := fun a b c d => close_ref (w := w) (a := a) (b := b) (c := c) (d := d) (g := w.heap.size + 2) (by repeat (first | exact Below.refl _ _ | refine below_alloc_of ?_ _ | refine below_drewN_of ?_ _ | refine below_drew_of ?_)) (by omega) hb1
            have BEL1 := Lib.hid bel1
            clear hgx hgr hgf hb1 bel1
            simp only [WantS.val]
            go_wp2_with fail
            refine (rkey_calls _ ((q + 1)) (lead0 hl2) (lead1 hl2 hm1)).mono ?_
            rintro e w' ⟨rfl, rfl⟩
            go_wp2_with fail
            refine (Put_calls (base + keyI (q + 1)) (key) _).mono ?_
            rintro e w2 ⟨rfl, hb2⟩
            have hg2 := box_keep hb2 (show (World.heap _)[w.heap.size + 1]? = some (.cells #[.int .i64 0, .int .i64 0, .int .i64 0, .int .i64 0] 44 (0, 0)) from (heap_set_other (heap_set_other (heap_set_other (heap_set_other HGR.out (by simp)) (by simp)) (by simp)) (by simp)))
            obtain ⟨⟨d0, d1, d2, d3⟩, ⟨g0, g1, g2, g3⟩, hz⟩ := box4 hg2
            simp only [WantS.val]
            go_wp2
            exact bodyPost_ret (results_cell_row rfl _ _ _ _ _ _ _ rfl (heap_set (heap_set (heap_set (heap_set hg2)))) Try.underlying44 rfl infoWant) rfl ⟨rfl, close_ref (g := w.heap.size + 1) (by first | exact BEL1.out _ _ _ _ | exact below_drew_of (BEL1.out _ _ _ _) | exact below_drewN_of (BEL1.out _ _ _ _) _) (by omega) hb2⟩
          by_cases hw2 : writes = 2
          · subst hw2
            rw [show addsL base most key ⟨link0, p0, node, false, key0, reads0, over0, cell0⟩ (f :: q :: tl) 2 = putS (base + linkI (q + 1)) p0 from by rw [addsL_two, if_neg hl, if_neg (show ¬ (q < 0 ∨ most ≤ q) by omega)]; rfl]
            obtain ⟨n0, n1⟩ := linkR hl2 hm1
            have hsum : IntKind.i64.wrap (base + linkI (q + 1)) = base + linkI (q + 1) := by rw [IntKind.wrap_i64]; omega
            go_enter Try.func75, Try.ntmps75
            go_wp2_with fail
            refine (rleads_f hl).mono ?_
            rintro e w' ⟨rfl, rfl⟩
            go_wp2_with fail
            refine (Put_calls (base + 2) (q + 1) _).mono ?_
            rintro e w1 ⟨rfl, hb1⟩
            have hgx := box_keep hb1 (show (World.heap _)[w.heap.size]? = some (.cells #[.int .i64 link0, .int .i64 p0, .int .i64 node, .bool false, .int .i64 key0, .int .i64 reads0, .bool over0, .int .i64 cell0] 86 (0, 0)) from heap_old (heap_old (heap_new (by simp))))
            have hgr := box_keep hb1 (show (World.heap _)[w.heap.size + 1]? = some (.cells #[.int .i64 0, .int .i64 0, .int .i64 0, .int .i64 0] 44 (0, 0)) from heap_old (heap_new (by simp)))
            have hgf := box_keep hb1 (show (World.heap _)[w.heap.size + 2]? = some (.cells #[.int .i64 0, .int .i64 0, .int .i64 0, .int .i64 0] 44 (0, 0)) from heap_new (by simp))
            obtain ⟨⟨x0, x1, x2, x3, x4, x5, x6, x7⟩, -, hzx⟩ := box8 hgx
            obtain ⟨⟨r0, r1, r2, r3⟩, ⟨s0, s1, s2, s3⟩, hzr⟩ := box4 hgr
            obtain ⟨⟨y0, y1, y2, y3⟩, ⟨t0, t1, t2, t3⟩, hzf⟩ := box4 hgf
            have HGR := Lib.hid hgr
            have bel1 := fun a b c d => close_ref (w := w) (a := a) (b := b) (c := c) (d := d) (g := w.heap.size + 2) (by repeat (first | exact Below.refl _ _ | refine below_alloc_of ?_ _ | refine below_drewN_of ?_ _ | refine below_drew_of ?_)) (by omega) hb1
            have BEL1 := Lib.hid bel1
            clear hgx hgr hgf hb1 bel1
            simp only [WantS.val]
            go_wp2_with fail
            refine wp_region_still_tail 6 (by kernel_rfl) (by kernel_rfl) ?_
            change wpStill _ _ (World.drew _) (fun a' => wpList _ _ _ _ a' (World.drew _)) _ _
            simp only [List.take_succ_cons, List.take_zero, List.drop_succ_cons, List.drop_zero]
            repeat still_step
            still_call ((rlink_calls _ ((q + 1)) (lead0 hl2) (lead1 hl2 hm1)).mono fun _ _ h => ⟨h.1, h.2.symm⟩)
            repeat still_step
            refine wpStill_nil ?_
            go_wp2_with fail
            refine (Put_calls (base + linkI (q + 1)) (p0) _).mono ?_
            rintro e w2 ⟨rfl, hb2⟩
            have hg2 := box_keep hb2 (show (World.heap _)[w.heap.size + 1]? = some (.cells #[.int .i64 0, .int .i64 0, .int .i64 0, .int .i64 0] 44 (0, 0)) from (heap_set_other (heap_set_other (heap_set_other (heap_set_other HGR.out (by simp)) (by simp)) (by simp)) (by simp)))
            obtain ⟨⟨d0, d1, d2, d3⟩, ⟨g0, g1, g2, g3⟩, hz⟩ := box4 hg2
            simp only [WantS.val]
            go_wp2
            exact bodyPost_ret (results_cell_row rfl _ _ _ _ _ _ _ rfl (heap_set (heap_set (heap_set (heap_set hg2)))) Try.underlying44 rfl infoWant) rfl ⟨rfl, close_ref (g := w.heap.size + 1) (by first | exact BEL1.out _ _ _ _ | exact below_drew_of (BEL1.out _ _ _ _) | exact below_drewN_of (BEL1.out _ _ _ _) _) (by omega) hb2⟩
          by_cases hw3 : writes = 3
          · subst hw3
            rw [show addsL base most key ⟨link0, p0, node, false, key0, reads0, over0, cell0⟩ (f :: q :: tl) 3 = putS (base + link0) (q + 1) from by rw [addsL_two, if_neg hl, if_neg (show ¬ (q < 0 ∨ most ≤ q) by omega)]; rfl]
            go_enter Try.func75, Try.ntmps75
            go_wp2_with fail
            refine (rleads_f hl).mono ?_
            rintro e w' ⟨rfl, rfl⟩
            go_wp2_with fail
            refine (Put_calls (base + 2) (q + 1) _).mono ?_
            rintro e w1 ⟨rfl, hb1⟩
            have hgx := box_keep hb1 (show (World.heap _)[w.heap.size]? = some (.cells #[.int .i64 link0, .int .i64 p0, .int .i64 node, .bool false, .int .i64 key0, .int .i64 reads0, .bool over0, .int .i64 cell0] 86 (0, 0)) from heap_old (heap_old (heap_new (by simp))))
            have hgr := box_keep hb1 (show (World.heap _)[w.heap.size + 1]? = some (.cells #[.int .i64 0, .int .i64 0, .int .i64 0, .int .i64 0] 44 (0, 0)) from heap_old (heap_new (by simp)))
            have hgf := box_keep hb1 (show (World.heap _)[w.heap.size + 2]? = some (.cells #[.int .i64 0, .int .i64 0, .int .i64 0, .int .i64 0] 44 (0, 0)) from heap_new (by simp))
            obtain ⟨⟨x0, x1, x2, x3, x4, x5, x6, x7⟩, -, hzx⟩ := box8 hgx
            obtain ⟨⟨r0, r1, r2, r3⟩, ⟨s0, s1, s2, s3⟩, hzr⟩ := box4 hgr
            obtain ⟨⟨y0, y1, y2, y3⟩, ⟨t0, t1, t2, t3⟩, hzf⟩ := box4 hgf
            have HGR := Lib.hid hgr
            have bel1 := fun a b c d => close_ref (w := w) (a := a) (b := b) (c := c) (d := d) (g := w.heap.size + 2) (by repeat (first | exact Below.refl _ _ | refine below_alloc_of ?_ _ | refine below_drewN_of ?_ _ | refine below_drew_of ?_)) (by omega) hb1
            have BEL1 := Lib.hid bel1
            clear hgx hgr hgf hb1 bel1
            simp only [WantS.val]
            go_wp2_with fail
            refine (Put_calls (base + link0) ((q + 1)) _).mono ?_
            rintro e w2 ⟨rfl, hb2⟩
            have hg2 := box_keep hb2 (show (World.heap _)[w.heap.size + 1]? = some (.cells #[.int .i64 0, .int .i64 0, .int .i64 0, .int .i64 0] 44 (0, 0)) from (heap_set_other (heap_set_other (heap_set_other (heap_set_other HGR.out (by simp)) (by simp)) (by simp)) (by simp)))
            obtain ⟨⟨d0, d1, d2, d3⟩, ⟨g0, g1, g2, g3⟩, hz⟩ := box4 hg2
            simp only [WantS.val]
            go_wp2
            exact bodyPost_ret (results_cell_row rfl _ _ _ _ _ _ _ rfl (heap_set (heap_set (heap_set (heap_set hg2)))) Try.underlying44 rfl infoWant) rfl ⟨rfl, close_ref (g := w.heap.size + 1) (by first | exact BEL1.out _ _ _ _ | exact below_drew_of (BEL1.out _ _ _ _) | exact below_drewN_of (BEL1.out _ _ _ _) _) (by omega) hb2⟩
          have hw0' : (writes == 0) = false := by simpa using hw0
          have hw1' : (writes == 1) = false := by simpa using hw1
          have hw2' : (writes == 2) = false := by simpa using hw2
          have hw3' : (writes == 3) = false := by simpa using hw3
          rw [show addsL base most key ⟨link0, p0, node, false, key0, reads0, over0, cell0⟩ (f :: q :: tl) writes = endS 0 0 from by rw [addsL_two, if_neg hl, if_neg (show ¬ (q < 0 ∨ most ≤ q) by omega)]; unfold addsW; rw [if_neg hw0, if_neg hw1, if_neg hw2, if_neg hw3]]
          clear hw0 hw1 hw2 hw3
          go_enter Try.func75, Try.ntmps75
          go_wp2_with fail
          refine (rleads_f hl).mono ?_
          rintro e w' ⟨rfl, rfl⟩
          go_wp2_with fail
          refine (Put_calls (base + 2) (q + 1) _).mono ?_
          rintro e w1 ⟨rfl, hb1⟩
          have hgx := box_keep hb1 (show (World.heap _)[w.heap.size]? = some (.cells #[.int .i64 link0, .int .i64 p0, .int .i64 node, .bool false, .int .i64 key0, .int .i64 reads0, .bool over0, .int .i64 cell0] 86 (0, 0)) from heap_old (heap_old (heap_new (by simp))))
          have hgr := box_keep hb1 (show (World.heap _)[w.heap.size + 1]? = some (.cells #[.int .i64 0, .int .i64 0, .int .i64 0, .int .i64 0] 44 (0, 0)) from heap_old (heap_new (by simp)))
          have hgf := box_keep hb1 (show (World.heap _)[w.heap.size + 2]? = some (.cells #[.int .i64 0, .int .i64 0, .int .i64 0, .int .i64 0] 44 (0, 0)) from heap_new (by simp))
          obtain ⟨⟨x0, x1, x2, x3, x4, x5, x6, x7⟩, -, hzx⟩ := box8 hgx
          obtain ⟨⟨r0, r1, r2, r3⟩, ⟨s0, s1, s2, s3⟩, hzr⟩ := box4 hgr
          obtain ⟨⟨y0, y1, y2, y3⟩, ⟨t0, t1, t2, t3⟩, hzf⟩ := box4 hgf
          have HGR := Lib.hid hgr
          have bel1 := fun a b c d => close_ref (w := w) (a := a) (b := b) (c := c) (d := d) (g := w.heap.size + 2) (by repeat (first | exact Below.refl _ _ | refine below_alloc_of ?_ _ | refine below_drewN_of ?_ _ | refine below_drew_of ?_)) (by omega) hb1
          have BEL1 := Lib.hid bel1
          clear hgx hgr hgf hb1 bel1
          simp only [WantS.val]
          go_wp2_with fail
          refine (End_calls (0) (0) _).mono ?_
          rintro e w2 ⟨rfl, hb2⟩
          have hg2 := box_keep hb2 (show (World.heap _)[w.heap.size + 1]? = some (.cells #[.int .i64 0, .int .i64 0, .int .i64 0, .int .i64 0] 44 (0, 0)) from (heap_set_other (heap_set_other (heap_set_other (heap_set_other HGR.out (by simp)) (by simp)) (by simp)) (by simp)))
          obtain ⟨⟨d0, d1, d2, d3⟩, ⟨g0, g1, g2, g3⟩, hz⟩ := box4 hg2
          simp only [WantS.val]
          go_wp2
          exact bodyPost_ret (results_cell_row rfl _ _ _ _ _ _ _ rfl (heap_set (heap_set (heap_set (heap_set hg2)))) Try.underlying44 rfl infoWant) rfl ⟨rfl, close_ref (g := w.heap.size + 1) (by first | exact BEL1.out _ _ _ _ | exact below_drew_of (BEL1.out _ _ _ _) | exact below_drewN_of (BEL1.out _ _ _ _) _) (by omega) hb2⟩

end Go.Proofs.Ytihlbhlagpmbjaa
