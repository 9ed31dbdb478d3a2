/- The chain's machine: the contracts of its closures (printed by gen_mach18.py). -/
import Derived.Test.YtihlbhlagpmbjaaMachB18
namespace Go.Proofs.Ytihlbhlagpmbjaa
open Go.RowKit

set_option maxRecDepth 100000 in
set_option maxHeartbeats 3000000 in
theorem counts_step (w : World) (p : Nat) (base most : Int) (nx : Value) (B : List Ent) (cell n : Int) (h : Lies w p base most nx) (hb : inB base most) (hc : cellOk cell) (hn : 0 ≤ n ∧ n ≤ most) :
    Calls Try.prog 37 #[.pointer (some ⟨p, 0, none⟩), .int .i64 cell, .int .i64 n] w (StepPost p base most B (readS (base + cell), .counts n) w) := by
  obtain ⟨⟨c0, c1, c2⟩, f2, hlt⟩ := lies3 h
  have HP := Lib.hid h
  have HB := Lib.hid hb
  obtain ⟨hb0, hb1, hm0, hm1⟩ := hb
  clear h
  obtain ⟨hn0, hn1⟩ := hn
  go_enter Try.func37, Try.ntmps37
  go_wp2_with fail
  refine (read_step _ p base most nx ([⟨w.heap.size, #[.pointer (some ⟨p, 0, none⟩)], 37⟩, ⟨w.heap.size + 1, #[.int .i64 n], 2⟩] ++ B) (.counts n) (cell) 52 (#[]) (#[.pointer (some ⟨w.heap.size, 0, none⟩), .pointer (some ⟨w.heap.size + 1, 0, none⟩)]) (by first | exact HP.out | exact heap_old HP.out | exact heap_old (heap_old HP.out) | exact heap_old (heap_old (heap_old HP.out)) | exact heap_old (heap_old (heap_old (heap_old HP.out))) | exact heap_old (heap_old (heap_old (heap_old (heap_old HP.out)))) | exact heap_old (heap_old (heap_old (heap_old (heap_old (heap_old HP.out)))))) HB.out (cellR hc) ⟨_, _, (List.mem_append_left _ List.mem_cons_self), (List.mem_append_left _ (List.mem_cons_of_mem _ List.mem_cons_self)), rfl⟩).mono ?_
  rintro e w1 ⟨rfl, post⟩
  have hg1 := box_grown post.1 (show (World.heap _)[w.heap.size + 2]? = some (.cells #[.int .i64 0, .int .i64 0, .int .i64 0, .int .i64 0] 44 (0, 0)) from heap_new (by simp)) (by omega)
  obtain ⟨⟨d0, d1, d2, d3⟩, ⟨g0, g1, g2, g3⟩, hz⟩ := box4 hg1
  simp only [WantS.val]
  go_wp2
  exact bodyPost_ret (results_cell_row rfl _ _ _ _ _ _ _ rfl (heap_set (heap_set (heap_set (heap_set hg1)))) Try.underlying44 rfl infoWant) rfl (close_step (g := w.heap.size + 2) (M := [⟨w.heap.size, #[.pointer (some ⟨p, 0, none⟩)], 37⟩, ⟨w.heap.size + 1, #[.int .i64 n], 2⟩]) (by repeat (first | exact grown_refl _ _ | refine grown_alloc ?_ _ | refine grown_drewN ?_ _ | refine grown_drew ?_)) hlt (by omega) (by simp) (by intro x hx; simp only [List.mem_cons, List.not_mem_nil, or_false] at hx; rcases hx with rfl | rfl <;> first | exact ⟨by simp, by simp, heap_new (by simp)⟩ | exact ⟨by simp, by simp, heap_old (heap_new (by simp))⟩ | exact ⟨by simp, by simp, heap_old (heap_old (heap_new (by simp)))⟩) ⟨rfl, post⟩ rfl)

set_option maxRecDepth 100000 in
set_option maxHeartbeats 3000000 in
theorem goes_step (w : World) (p : Nat) (base most : Int) (nx : Value) (B : List Ent) (call k cell n : Int) (tn : Nat) (tb tc : Array Value) (h : Lies w p base most nx) (hb : inB base most) (hc : cellOk cell) (hn : 0 ≤ n ∧ n ≤ most) (ht : ThenV B p call k (.func (.func tn) tb tc)) :
    Calls Try.prog 39 #[.pointer (some ⟨p, 0, none⟩), .int .i64 k, .int .i64 cell, .int .i64 n, .func (.func tn) tb tc] w (StepPost p base most B (readS (base + cell), .goes call k cell n) w) := by
  obtain ⟨⟨c0, c1, c2⟩, f2, hlt⟩ := lies3 h
  have HP := Lib.hid h
  have HB := Lib.hid hb
  obtain ⟨hb0, hb1, hm0, hm1⟩ := hb
  clear h
  obtain ⟨hn0, hn1⟩ := hn
  have HT := Lib.hid ht
  clear ht
  go_enter Try.func39, Try.ntmps39
  go_wp2_with fail
  refine (read_step _ p base most nx ([⟨w.heap.size, #[.pointer (some ⟨p, 0, none⟩)], 37⟩, ⟨w.heap.size + 1, #[.int .i64 k], 2⟩, ⟨w.heap.size + 2, #[.int .i64 cell], 3⟩, ⟨w.heap.size + 3, #[.int .i64 n], 2⟩, ⟨w.heap.size + 4, #[.func (.func tn) tb tc], 76⟩] ++ B) (.goes call k cell n) (cell) 53 (#[]) (#[.pointer (some ⟨w.heap.size, 0, none⟩), .pointer (some ⟨w.heap.size + 3, 0, none⟩), .pointer (some ⟨w.heap.size + 4, 0, none⟩), .pointer (some ⟨w.heap.size + 2, 0, none⟩), .pointer (some ⟨w.heap.size + 1, 0, none⟩)]) (by first | exact HP.out | exact heap_old HP.out | exact heap_old (heap_old HP.out) | exact heap_old (heap_old (heap_old HP.out)) | exact heap_old (heap_old (heap_old (heap_old HP.out))) | exact heap_old (heap_old (heap_old (heap_old (heap_old HP.out)))) | exact heap_old (heap_old (heap_old (heap_old (heap_old (heap_old HP.out)))))) HB.out (cellR hc) ⟨_, _, _, _, _, _, (List.mem_append_left _ List.mem_cons_self), (List.mem_append_left _ (List.mem_cons_of_mem _ (List.mem_cons_of_mem _ (List.mem_cons_of_mem _ List.mem_cons_self)))), HT.out.mono (fun e he => List.mem_append_right _ he), (List.mem_append_left _ (List.mem_cons_of_mem _ (List.mem_cons_of_mem _ (List.mem_cons_of_mem _ (List.mem_cons_of_mem _ List.mem_cons_self))))), (List.mem_append_left _ (List.mem_cons_of_mem _ (List.mem_cons_of_mem _ List.mem_cons_self))), (List.mem_append_left _ (List.mem_cons_of_mem _ List.mem_cons_self)), rfl⟩).mono ?_
  rintro e w1 ⟨rfl, post⟩
  have hg1 := box_grown post.1 (show (World.heap _)[w.heap.size + 5]? = some (.cells #[.int .i64 0, .int .i64 0, .int .i64 0, .int .i64 0] 44 (0, 0)) from heap_new (by simp)) (by omega)
  obtain ⟨⟨d0, d1, d2, d3⟩, ⟨g0, g1, g2, g3⟩, hz⟩ := box4 hg1
  simp only [WantS.val]
  go_wp2
  exact bodyPost_ret (results_cell_row rfl _ _ _ _ _ _ _ rfl (heap_set (heap_set (heap_set (heap_set hg1)))) Try.underlying44 rfl infoWant) rfl (close_step (g := w.heap.size + 5) (M := [⟨w.heap.size, #[.pointer (some ⟨p, 0, none⟩)], 37⟩, ⟨w.heap.size + 1, #[.int .i64 k], 2⟩, ⟨w.heap.size + 2, #[.int .i64 cell], 3⟩, ⟨w.heap.size + 3, #[.int .i64 n], 2⟩, ⟨w.heap.size + 4, #[.func (.func tn) tb tc], 76⟩]) (by repeat (first | exact grown_refl _ _ | refine grown_alloc ?_ _ | refine grown_drewN ?_ _ | refine grown_drew ?_)) hlt (by omega) (by simp) (by intro x hx; simp only [List.mem_cons, List.not_mem_nil, or_false] at hx; rcases hx with rfl | rfl | rfl | rfl | rfl <;> first | exact ⟨by simp, by simp, heap_new (by simp)⟩ | exact ⟨by simp, by simp, heap_old (heap_new (by simp))⟩ | exact ⟨by simp, by simp, heap_old (heap_old (heap_new (by simp)))⟩ | exact ⟨by simp, by simp, heap_old (heap_old (heap_old (heap_new (by simp))))⟩ | exact ⟨by simp, by simp, heap_old (heap_old (heap_old (heap_old (heap_new (by simp)))))⟩ | exact ⟨by simp, by simp, heap_old (heap_old (heap_old (heap_old (heap_old (heap_new (by simp))))))⟩) ⟨rfl, post⟩ rfl)

set_option maxRecDepth 100000 in
set_option maxHeartbeats 3000000 in
theorem keyOf_step (w : World) (p : Nat) (base most : Int) (nx : Value) (B : List Ent) (v : Int) (h : Lies w p base most nx) (hb : inB base most) :
    Calls Try.prog 35 #[.pointer (some ⟨p, 0, none⟩), .int .i64 v] w (StepPost p base most B (goK base most .keyOf v) w) := by
  obtain ⟨⟨c0, c1, c2⟩, f2, hlt⟩ := lies3 h
  have HP := Lib.hid h
  have HB := Lib.hid hb
  obtain ⟨hb0, hb1, hm0, hm1⟩ := hb
  clear h
  by_cases hl : leadsP most v
  · rw [show goK base most (.keyOf) v = (readS (base + keyI v), .keyOf1) from if_pos hl]
    go_enter Try.func35, Try.ntmps35
    go_wp2_with fail
    refine (leads_t (by first | exact HP.out | exact heap_old HP.out | exact heap_old (heap_old HP.out) | exact heap_old (heap_old (heap_old HP.out)) | exact heap_old (heap_old (heap_old (heap_old HP.out))) | exact heap_old (heap_old (heap_old (heap_old (heap_old HP.out)))) | exact heap_old (heap_old (heap_old (heap_old (heap_old (heap_old HP.out)))))) hl).mono ?_
    rintro e w' ⟨rfl, rfl⟩
    go_wp2_with fail
    refine wp_region_still_tail 4 (by kernel_rfl) (by kernel_rfl) ?_
    change wpStill _ _ (World.drew _) (fun a' => wpList _ _ _ _ a' (World.drew _)) _ _
    simp only [List.take_succ_cons, List.take_zero, List.drop_succ_cons, List.drop_zero]
    repeat still_step
    still_call ((key_calls _ (v) (lead0 hl) (lead1 hl hm1)).mono fun _ _ h => ⟨h.1, h.2.symm⟩)
    repeat still_step
    refine wpStill_nil ?_
    go_wp2_with fail
    refine (read_step _ p base most nx ([⟨w.heap.size, #[.pointer (some ⟨p, 0, none⟩)], 37⟩] ++ B) (.keyOf1) (keyI v) 51 (#[]) (#[.pointer (some ⟨w.heap.size, 0, none⟩)]) (by first | exact HP.out | exact heap_old HP.out | exact heap_old (heap_old HP.out) | exact heap_old (heap_old (heap_old HP.out)) | exact heap_old (heap_old (heap_old (heap_old HP.out))) | exact heap_old (heap_old (heap_old (heap_old (heap_old HP.out)))) | exact heap_old (heap_old (heap_old (heap_old (heap_old (heap_old HP.out)))))) HB.out (keyR hl hm1) ⟨_, (List.mem_append_left _ List.mem_cons_self), rfl⟩).mono ?_
    rintro e w1 ⟨rfl, post⟩
    have hg1 := box_grown post.1 (show (World.heap _)[w.heap.size + 1]? = some (.cells #[.int .i64 0, .int .i64 0, .int .i64 0, .int .i64 0] 44 (0, 0)) from heap_new (by simp)) (by omega)
    obtain ⟨⟨d0, d1, d2, d3⟩, ⟨g0, g1, g2, g3⟩, hz⟩ := box4 hg1
    simp only [WantS.val]
    go_wp2
    exact bodyPost_ret (results_cell_row rfl _ _ _ _ _ _ _ rfl (heap_set (heap_set (heap_set (heap_set hg1)))) Try.underlying44 rfl infoWant) rfl (close_step (g := w.heap.size + 1) (M := [⟨w.heap.size, #[.pointer (some ⟨p, 0, none⟩)], 37⟩]) (by repeat (first | exact grown_refl _ _ | refine grown_alloc ?_ _ | refine grown_drewN ?_ _ | refine grown_drew ?_)) hlt (by omega) (by simp) (by intro x hx; simp only [List.mem_cons, List.not_mem_nil, or_false] at hx; rcases hx with rfl <;> first | exact ⟨by simp, by simp, heap_new (by simp)⟩ | exact ⟨by simp, by simp, heap_old (heap_new (by simp))⟩) ⟨rfl, post⟩ rfl)
  · rw [show goK base most (.keyOf) v = endK 0 1 from if_neg hl]
    go_enter Try.func35, Try.ntmps35
    go_wp2_with fail
    refine (leads_f (by first | exact HP.out | exact heap_old HP.out | exact heap_old (heap_old HP.out) | exact heap_old (heap_old (heap_old HP.out)) | exact heap_old (heap_old (heap_old (heap_old HP.out))) | exact heap_old (heap_old (heap_old (heap_old (heap_old HP.out)))) | exact heap_old (heap_old (heap_old (heap_old (heap_old (heap_old HP.out)))))) hl).mono ?_
    rintro e w' ⟨rfl, rfl⟩
    go_wp2_with fail
    refine (done_step _ p base most nx (B) (0) (1) (by first | exact HP.out | exact heap_old HP.out | exact heap_old (heap_old HP.out) | exact heap_old (heap_old (heap_old HP.out)) | exact heap_old (heap_old (heap_old (heap_old HP.out))) | exact heap_old (heap_old (heap_old (heap_old (heap_old HP.out)))) | exact heap_old (heap_old (heap_old (heap_old (heap_old (heap_old HP.out))))))).mono ?_
    rintro e w1 ⟨rfl, post⟩
    have hg1 := box_grown post.1 (show (World.heap _)[w.heap.size + 1]? = some (.cells #[.int .i64 0, .int .i64 0, .int .i64 0, .int .i64 0] 44 (0, 0)) from heap_new (by simp)) (by omega)
    obtain ⟨⟨d0, d1, d2, d3⟩, ⟨g0, g1, g2, g3⟩, hz⟩ := box4 hg1
    simp only [WantS.val, endK]
    go_wp2
    exact bodyPost_ret (results_cell_row rfl _ _ _ _ _ _ _ rfl (heap_set (heap_set (heap_set (heap_set hg1)))) Try.underlying44 rfl infoWant) rfl (close_step (g := w.heap.size + 1) (M := []) (by repeat (first | exact grown_refl _ _ | refine grown_alloc ?_ _ | refine grown_drewN ?_ _ | refine grown_drew ?_)) hlt (by omega) (by simp) (fun x hx => nomatch hx) ⟨rfl, post⟩ rfl)
  

set_option maxRecDepth 100000 in
set_option maxHeartbeats 3000000 in
theorem keyOf1_step (w : World) (p : Nat) (base most : Int) (nx : Value) (B : List Ent) (v : Int) (bx : Nat) (h : Lies w p base most nx) (hs : Store w p B) (hb : inB base most) (hbx : XB B p bx) :
    Calls Try.prog 51 #[.int .i64 v, .pointer (some ⟨bx, 0, none⟩)] w (StepPost p base most B (endK v 0) w) := by
  obtain ⟨⟨c0, c1, c2⟩, f2, hlt⟩ := lies3 h
  have HP := Lib.hid h
  have HB := Lib.hid hb
  obtain ⟨hb0, hb1, hm0, hm1⟩ := hb
  obtain ⟨bx0, bxl, bxn⟩ := box_in hs hbx
  have Hbx := Lib.hid hbx
  have HS := Lib.hid hs
  clear h hs hbx
  go_enter Try.func51, Try.ntmps51
  go_wp2_with fail
  refine (done_step _ p base most nx (B) (v) (0) (by first | exact HP.out | exact heap_old HP.out | exact heap_old (heap_old HP.out) | exact heap_old (heap_old (heap_old HP.out)) | exact heap_old (heap_old (heap_old (heap_old HP.out))) | exact heap_old (heap_old (heap_old (heap_old (heap_old HP.out)))) | exact heap_old (heap_old (heap_old (heap_old (heap_old (heap_old HP.out))))))).mono ?_
  rintro e w1 ⟨rfl, post⟩
  have hg1 := box_grown post.1 (show (World.heap _)[w.heap.size]? = some (.cells #[.int .i64 0, .int .i64 0, .int .i64 0, .int .i64 0] 44 (0, 0)) from heap_new (by simp)) (by omega)
  obtain ⟨⟨d0, d1, d2, d3⟩, ⟨g0, g1, g2, g3⟩, hz⟩ := box4 hg1
  simp only [WantS.val, endK]
  go_wp2
  exact bodyPost_ret (results_cell_row rfl _ _ _ _ _ _ _ rfl (heap_set (heap_set (heap_set (heap_set hg1)))) Try.underlying44 rfl infoWant) rfl (close_step (g := w.heap.size) (M := []) (by repeat (first | exact grown_refl _ _ | refine grown_alloc ?_ _ | refine grown_drewN ?_ _ | refine grown_drew ?_)) hlt (by omega) (by simp) (fun x hx => nomatch hx) ⟨rfl, post⟩ rfl)

set_option maxRecDepth 100000 in
set_option maxHeartbeats 3000000 in
theorem least_step (w : World) (p : Nat) (base most : Int) (nx : Value) (B : List Ent) (v : Int) (bx : Nat) (h : Lies w p base most nx) (hs : Store w p B) (hb : inB base most) (hbx : XB B p bx) :
    Calls Try.prog 33 #[.int .i64 v, .pointer (some ⟨bx, 0, none⟩)] w (StepPost p base most B (readS (base + 0), .keyOf) w) := by
  obtain ⟨⟨c0, c1, c2⟩, f2, hlt⟩ := lies3 h
  have HP := Lib.hid h
  have HB := Lib.hid hb
  obtain ⟨hb0, hb1, hm0, hm1⟩ := hb
  obtain ⟨bx0, bxl, bxn⟩ := box_in hs hbx
  have Hbx := Lib.hid hbx
  have HS := Lib.hid hs
  clear h hs hbx
  go_enter Try.func33, Try.ntmps33
  go_wp2_with fail
  refine (read_step _ p base most nx (B) (.keyOf) (0) 35 (#[.pointer (some ⟨p, 0, none⟩)]) (#[]) (by first | exact HP.out | exact heap_old HP.out | exact heap_old (heap_old HP.out) | exact heap_old (heap_old (heap_old HP.out)) | exact heap_old (heap_old (heap_old (heap_old HP.out))) | exact heap_old (heap_old (heap_old (heap_old (heap_old HP.out)))) | exact heap_old (heap_old (heap_old (heap_old (heap_old (heap_old HP.out)))))) HB.out (by omega) rfl).mono ?_
  rintro e w1 ⟨rfl, post⟩
  have hg1 := box_grown post.1 (show (World.heap _)[w.heap.size]? = some (.cells #[.int .i64 0, .int .i64 0, .int .i64 0, .int .i64 0] 44 (0, 0)) from heap_new (by simp)) (by omega)
  obtain ⟨⟨d0, d1, d2, d3⟩, ⟨g0, g1, g2, g3⟩, hz⟩ := box4 hg1
  simp only [WantS.val]
  go_wp2
  exact bodyPost_ret (results_cell_row rfl _ _ _ _ _ _ _ rfl (heap_set (heap_set (heap_set (heap_set hg1)))) Try.underlying44 rfl infoWant) rfl (close_step (g := w.heap.size) (M := []) (by repeat (first | exact grown_refl _ _ | refine grown_alloc ?_ _ | refine grown_drewN ?_ _ | refine grown_drew ?_)) hlt (by omega) (by simp) (fun x hx => nomatch hx) ⟨rfl, post⟩ rfl)

set_option maxRecDepth 100000 in
set_option maxHeartbeats 3000000 in
theorem len_step (w : World) (p : Nat) (base most : Int) (nx : Value) (B : List Ent) (v : Int) (bx : Nat) (h : Lies w p base most nx) (hs : Store w p B) (hb : inB base most) (hbx : XB B p bx) :
    Calls Try.prog 36 #[.int .i64 v, .pointer (some ⟨bx, 0, none⟩)] w (StepPost p base most B (readS (base + 0), .counts 0) w) := by
  obtain ⟨⟨c0, c1, c2⟩, f2, hlt⟩ := lies3 h
  have HP := Lib.hid h
  have HB := Lib.hid hb
  obtain ⟨hb0, hb1, hm0, hm1⟩ := hb
  obtain ⟨bx0, bxl, bxn⟩ := box_in hs hbx
  have Hbx := Lib.hid hbx
  have HS := Lib.hid hs
  clear h hs hbx
  go_enter Try.func36, Try.ntmps36
  go_wp2_with fail
  refine (counts_step _ p base most nx B 0 0 (by first | exact HP.out | exact heap_old HP.out | exact heap_old (heap_old HP.out) | exact heap_old (heap_old (heap_old HP.out)) | exact heap_old (heap_old (heap_old (heap_old HP.out))) | exact heap_old (heap_old (heap_old (heap_old (heap_old HP.out)))) | exact heap_old (heap_old (heap_old (heap_old (heap_old (heap_old HP.out)))))) HB.out (by unfold cellOk; omega) (by omega)).mono ?_
  rintro e w1 ⟨rfl, post⟩
  have hg1 := box_grown post.1 (show (World.heap _)[w.heap.size]? = some (.cells #[.int .i64 0, .int .i64 0, .int .i64 0, .int .i64 0] 44 (0, 0)) from heap_new (by simp)) (by omega)
  obtain ⟨⟨d0, d1, d2, d3⟩, ⟨g0, g1, g2, g3⟩, hz⟩ := box4 hg1
  simp only [WantS.val]
  go_wp2
  exact bodyPost_ret (results_cell_row rfl _ _ _ _ _ _ _ rfl (heap_set (heap_set (heap_set (heap_set hg1)))) Try.underlying44 rfl infoWant) rfl (close_step (g := w.heap.size) (M := []) (by repeat (first | exact grown_refl _ _ | refine grown_alloc ?_ _ | refine grown_drewN ?_ _ | refine grown_drew ?_)) hlt (by omega) (by simp) (fun x hx => nomatch hx) ⟨rfl, post⟩ rfl)

set_option maxRecDepth 100000 in
set_option maxHeartbeats 3000000 in
theorem counts1_step (w : World) (p : Nat) (base most : Int) (nx : Value) (B : List Ent) (n v : Int) (bx bn : Nat) (h : Lies w p base most nx) (hs : Store w p B) (hb : inB base most) (hbx : XB B p bx) (hbn : VB B n bn) (hn : 0 ≤ n ∧ n ≤ most) :
    Calls Try.prog 52 #[.int .i64 v, .pointer (some ⟨bx, 0, none⟩), .pointer (some ⟨bn, 0, none⟩)] w (StepPost p base most B (goK base most (.counts n) v) w) := by
  obtain ⟨⟨c0, c1, c2⟩, f2, hlt⟩ := lies3 h
  have HP := Lib.hid h
  have HB := Lib.hid hb
  obtain ⟨hb0, hb1, hm0, hm1⟩ := hb
  obtain ⟨bx0, bxl, bxn⟩ := box_in hs hbx
  have Hbx := Lib.hid hbx
  obtain ⟨bn0, bnl, bnn⟩ := box_in hs hbn
  have Hbn := Lib.hid hbn
  have HS := Lib.hid hs
  clear h hs hbx hbn
  obtain ⟨hn0, hn1⟩ := hn
  by_cases hl : leadsP most v
  · by_cases hne : n = most
    · rw [show goK base most (.counts n) v = endK n 0 from if_neg (fun h => h.2 hne)]
      have hne' : (n == most) = true := by simpa using hne
      clear hne
      go_enter Try.func52, Try.ntmps52
      go_wp2_with fail
      go_quiet ((go_at_call 50; exact just_drew (fun W hW => leads_t (p := p) (base := base) (most := most) (nx := nx) (lies_at (heap_old HP.out) hW) hl) _))
      go_wp2_with fail
      refine (done_step _ p base most nx (B) (n) (0) (by first | exact HP.out | exact heap_old HP.out | exact heap_old (heap_old HP.out) | exact heap_old (heap_old (heap_old HP.out)) | exact heap_old (heap_old (heap_old (heap_old HP.out))) | exact heap_old (heap_old (heap_old (heap_old (heap_old HP.out)))) | exact heap_old (heap_old (heap_old (heap_old (heap_old (heap_old HP.out))))))).mono ?_
      rintro e w1 ⟨rfl, post⟩
      have hg1 := box_grown post.1 (show (World.heap _)[w.heap.size]? = some (.cells #[.int .i64 0, .int .i64 0, .int .i64 0, .int .i64 0] 44 (0, 0)) from heap_new (by simp)) (by omega)
      obtain ⟨⟨d0, d1, d2, d3⟩, ⟨g0, g1, g2, g3⟩, hz⟩ := box4 hg1
      simp only [WantS.val, endK]
      go_wp2
      exact bodyPost_ret (results_cell_row rfl _ _ _ _ _ _ _ rfl (heap_set (heap_set (heap_set (heap_set hg1)))) Try.underlying44 rfl infoWant) rfl (close_step (g := w.heap.size) (M := []) (by repeat (first | exact grown_refl _ _ | refine grown_alloc ?_ _ | refine grown_drewN ?_ _ | refine grown_drew ?_)) hlt (by omega) (by simp) (fun x hx => nomatch hx) ⟨rfl, post⟩ rfl)
    · rw [show goK base most (.counts n) v = (readS (base + linkI v), .counts (n + 1)) from if_pos ⟨hl, hne⟩]
      have hne' : (n == most) = false := by simpa using hne
      have hne2 : n + 1 ≤ most := by omega
      go_enter Try.func52, Try.ntmps52
      go_wp2_with fail
      go_quiet ((go_at_call 50; exact just_drew (fun W hW => leads_t (p := p) (base := base) (most := most) (nx := nx) (lies_at (heap_old HP.out) hW) hl) _))
      go_wp2_with fail
      refine wp_region_still_tail 5 (by kernel_rfl) (by kernel_rfl) ?_
      change wpStill _ _ (World.drew _) (fun a' => wpList _ _ _ _ a' (World.drew _)) _ _
      simp only [List.take_succ_cons, List.take_zero, List.drop_succ_cons, List.drop_zero]
      repeat still_step
      still_call ((link_calls _ (v) (lead0 hl) (lead1 hl hm1)).mono fun _ _ h => ⟨h.1, h.2.symm⟩)
      repeat still_step
      refine wpStill_nil ?_
      go_wp2_with fail
      refine (counts_step _ p base most nx B (linkI v) (n + 1) (by first | exact HP.out | exact heap_old HP.out | exact heap_old (heap_old HP.out) | exact heap_old (heap_old (heap_old HP.out)) | exact heap_old (heap_old (heap_old (heap_old HP.out))) | exact heap_old (heap_old (heap_old (heap_old (heap_old HP.out)))) | exact heap_old (heap_old (heap_old (heap_old (heap_old (heap_old HP.out)))))) HB.out (linkC hl hm1) (by omega)).mono ?_
      rintro e w1 ⟨rfl, post⟩
      have hg1 := box_grown post.1 (show (World.heap _)[w.heap.size]? = some (.cells #[.int .i64 0, .int .i64 0, .int .i64 0, .int .i64 0] 44 (0, 0)) from heap_new (by simp)) (by omega)
      obtain ⟨⟨d0, d1, d2, d3⟩, ⟨g0, g1, g2, g3⟩, hz⟩ := box4 hg1
      simp only [WantS.val]
      go_wp2
      exact bodyPost_ret (results_cell_row rfl _ _ _ _ _ _ _ rfl (heap_set (heap_set (heap_set (heap_set hg1)))) Try.underlying44 rfl infoWant) rfl (close_step (g := w.heap.size) (M := []) (by repeat (first | exact grown_refl _ _ | refine grown_alloc ?_ _ | refine grown_drewN ?_ _ | refine grown_drew ?_)) hlt (by omega) (by simp) (fun x hx => nomatch hx) ⟨rfl, post⟩ rfl)
  · rw [show goK base most (.counts n) v = endK n 0 from if_neg (fun h => hl h.1)]
    go_enter Try.func52, Try.ntmps52
    go_wp2_with fail
    go_quiet ((go_at_call 50; exact just_drew (fun W hW => leads_f (p := p) (base := base) (most := most) (nx := nx) (lies_at (heap_old HP.out) hW) hl) _))
    go_wp2_with fail
    refine (done_step _ p base most nx (B) (n) (0) (by first | exact HP.out | exact heap_old HP.out | exact heap_old (heap_old HP.out) | exact heap_old (heap_old (heap_old HP.out)) | exact heap_old (heap_old (heap_old (heap_old HP.out))) | exact heap_old (heap_old (heap_old (heap_old (heap_old HP.out)))) | exact heap_old (heap_old (heap_old (heap_old (heap_old (heap_old HP.out))))))).mono ?_
    rintro e w1 ⟨rfl, post⟩
    have hg1 := box_grown post.1 (show (World.heap _)[w.heap.size]? = some (.cells #[.int .i64 0, .int .i64 0, .int .i64 0, .int .i64 0] 44 (0, 0)) from heap_new (by simp)) (by omega)
    obtain ⟨⟨d0, d1, d2, d3⟩, ⟨g0, g1, g2, g3⟩, hz⟩ := box4 hg1
    simp only [WantS.val, endK]
    go_wp2
    exact bodyPost_ret (results_cell_row rfl _ _ _ _ _ _ _ rfl (heap_set (heap_set (heap_set (heap_set hg1)))) Try.underlying44 rfl infoWant) rfl (close_step (g := w.heap.size) (M := []) (by repeat (first | exact grown_refl _ _ | refine grown_alloc ?_ _ | refine grown_drewN ?_ _ | refine grown_drew ?_)) hlt (by omega) (by simp) (fun x hx => nomatch hx) ⟨rfl, post⟩ rfl)
  

set_option maxRecDepth 100000 in
set_option maxHeartbeats 3000000 in
theorem start_step (w : World) (p : Nat) (base most : Int) (nx : Value) (B : List Ent) (call k v : Int) (bx bk bc : Nat) (h : Lies w p base most nx) (hs : Store w p B) (hb : inB base most) (hbx : XB B p bx) (hbk : VB B k bk) (hbc : IB B call bc) :
    Calls Try.prog 38 #[.int .i64 v, .pointer (some ⟨bx, 0, none⟩), .pointer (some ⟨bk, 0, none⟩), .pointer (some ⟨bc, 0, none⟩)] w (StepPost p base most B (readS (base + 0), .goes call k 0 0) w) := by
  obtain ⟨⟨c0, c1, c2⟩, f2, hlt⟩ := lies3 h
  have HP := Lib.hid h
  have HB := Lib.hid hb
  obtain ⟨hb0, hb1, hm0, hm1⟩ := hb
  obtain ⟨bx0, bxl, bxn⟩ := box_in hs hbx
  have Hbx := Lib.hid hbx
  obtain ⟨bk0, bkl, bkn⟩ := box_in hs hbk
  have Hbk := Lib.hid hbk
  obtain ⟨bc0, bcl, bcn⟩ := box_in hs hbc
  have Hbc := Lib.hid hbc
  have HS := Lib.hid hs
  clear h hs hbx hbk hbc
  go_enter Try.func38, Try.ntmps38
  go_wp2_with fail
  refine (goes_step _ p base most nx B call k 0 0 40 #[] #[.pointer (some ⟨bc, 0, none⟩), .pointer (some ⟨bx, 0, none⟩), .pointer (some ⟨bk, 0, none⟩)] (by first | exact HP.out | exact heap_old HP.out | exact heap_old (heap_old HP.out) | exact heap_old (heap_old (heap_old HP.out)) | exact heap_old (heap_old (heap_old (heap_old HP.out))) | exact heap_old (heap_old (heap_old (heap_old (heap_old HP.out)))) | exact heap_old (heap_old (heap_old (heap_old (heap_old (heap_old HP.out)))))) HB.out (by unfold cellOk; omega) (by omega) ⟨_, _, _, Hbc.out, Hbx.out, Hbk.out, rfl⟩).mono ?_
  rintro e w1 ⟨rfl, post⟩
  have hg1 := box_grown post.1 (show (World.heap _)[w.heap.size]? = some (.cells #[.int .i64 0, .int .i64 0, .int .i64 0, .int .i64 0] 44 (0, 0)) from heap_new (by simp)) (by omega)
  obtain ⟨⟨d0, d1, d2, d3⟩, ⟨g0, g1, g2, g3⟩, hz⟩ := box4 hg1
  simp only [WantS.val]
  go_wp2
  exact bodyPost_ret (results_cell_row rfl _ _ _ _ _ _ _ rfl (heap_set (heap_set (heap_set (heap_set hg1)))) Try.underlying44 rfl infoWant) rfl (close_step (g := w.heap.size) (M := []) (by repeat (first | exact grown_refl _ _ | refine grown_alloc ?_ _ | refine grown_drewN ?_ _ | refine grown_drew ?_)) hlt (by omega) (by simp) (fun x hx => nomatch hx) ⟨rfl, post⟩ rfl)

end Go.Proofs.Ytihlbhlagpmbjaa
