/- The chain's machine: the contracts of its closures (printed by gen_mach18.py). -/
import Derived.Test.YtihlbhlagpmbjaaMachB18
namespace Go.Proofs.Ytihlbhlagpmbjaa
open Go.RowKit

set_option maxRecDepth 100000 in
set_option maxHeartbeats 3000000 in
theorem adds_step (w : World) (p : Nat) (base most : Int) (nx : Value) (B : List Ent) (k : Int) (cell q : Int) (st : Bool) (ky : Int) (a : Bool) (h : Lies w p base most nx) (hb : inB base most) :
    Calls Try.prog 41 #[.pointer (some ⟨p, 0, none⟩), .int .i64 k, .agg #[.int .i64 cell, .int .i64 q, .bool st, .int .i64 ky, .bool a]] w (StepPost p base most B (addsK base k ⟨cell, q, st, ky, a⟩) w) := by
  obtain ⟨⟨c0, c1, c2⟩, f2, hlt⟩ := lies3 h
  have HP := Lib.hid h
  have HB := Lib.hid hb
  obtain ⟨hb0, hb1, hm0, hm1⟩ := hb
  clear h
  cases a with
  | true =>
    rw [show addsK base k ⟨cell, q, st, ky, true⟩ = endK 0 3 from rfl]
    go_enter Try.func41, Try.ntmps41
    go_wp2_with fail
    refine (done_step _ p base most nx (B) (0) (3) (by first | exact HP.out | exact heap_old HP.out | exact heap_old (heap_old HP.out) | exact heap_old (heap_old (heap_old HP.out)) | exact heap_old (heap_old (heap_old (heap_old HP.out))) | exact heap_old (heap_old (heap_old (heap_old (heap_old HP.out)))) | exact heap_old (heap_old (heap_old (heap_old (heap_old (heap_old HP.out))))))).mono ?_
    rintro e w1 ⟨rfl, post⟩
    have hg1 := box_grown post.1 (show (World.heap _)[w.heap.size + 3]? = some (.cells #[.int .i64 0, .int .i64 0, .int .i64 0, .int .i64 0] 44 (0, 0)) from heap_new (by simp)) (by omega)
    obtain ⟨⟨d0, d1, d2, d3⟩, ⟨g0, g1, g2, g3⟩, hz⟩ := box4 hg1
    simp only [WantS.val, endK]
    go_wp2
    exact bodyPost_ret (results_cell_row rfl _ _ _ _ _ _ _ rfl (heap_set (heap_set (heap_set (heap_set hg1)))) Try.underlying44 rfl infoWant) rfl (close_step (g := w.heap.size + 3) (M := []) (by repeat (first | exact grown_refl _ _ | refine grown_alloc ?_ _ | refine grown_drewN ?_ _ | refine grown_drew ?_)) hlt (by omega) (by simp) (fun x hx => nomatch hx) ⟨rfl, post⟩ rfl)
  | false =>
    rw [show addsK base k ⟨cell, q, st, ky, false⟩ = (readS (base + 1), .addF k ⟨cell, q, st, ky, false⟩) from rfl]
    go_enter Try.func41, Try.ntmps41
    go_wp2_with fail
    refine (read_step _ p base most nx ([⟨w.heap.size, #[.pointer (some ⟨p, 0, none⟩)], 37⟩, ⟨w.heap.size + 1, #[.int .i64 k], 2⟩, ⟨w.heap.size + 2, #[.int .i64 cell, .int .i64 q, .bool st, .int .i64 ky, .bool false], 74⟩, ⟨w.heap.size + 4, #[.func (.func 55) #[] #[.pointer (some ⟨w.heap.size, 0, none⟩), .pointer (some ⟨w.heap.size + 1, 0, none⟩), .pointer (some ⟨w.heap.size + 2, 0, none⟩)]], 45⟩] ++ B) (.addF k ⟨cell, q, st, ky, false⟩) (1) 60 (#[]) (#[.pointer (some ⟨w.heap.size, 0, none⟩), .pointer (some ⟨w.heap.size + 4, 0, none⟩)]) (by first | exact HP.out | exact heap_old HP.out | exact heap_old (heap_old HP.out) | exact heap_old (heap_old (heap_old HP.out)) | exact heap_old (heap_old (heap_old (heap_old HP.out))) | exact heap_old (heap_old (heap_old (heap_old (heap_old HP.out)))) | exact heap_old (heap_old (heap_old (heap_old (heap_old (heap_old HP.out)))))) HB.out (by omega) ⟨_, _, (List.mem_append_left _ List.mem_cons_self), ⟨_, ⟨_, _, _, (List.mem_append_left _ List.mem_cons_self), (List.mem_append_left _ (List.mem_cons_of_mem _ List.mem_cons_self)), (List.mem_append_left _ (List.mem_cons_of_mem _ (List.mem_cons_of_mem _ List.mem_cons_self))), rfl⟩, (List.mem_append_left _ (List.mem_cons_of_mem _ (List.mem_cons_of_mem _ (List.mem_cons_of_mem _ List.mem_cons_self))))⟩, rfl⟩).mono ?_
    rintro e w1 ⟨rfl, post⟩
    have hg1 := box_grown post.1 (show (World.heap _)[w.heap.size + 3]? = some (.cells #[.int .i64 0, .int .i64 0, .int .i64 0, .int .i64 0] 44 (0, 0)) from heap_old (heap_new (by simp))) (by omega)
    obtain ⟨⟨d0, d1, d2, d3⟩, ⟨g0, g1, g2, g3⟩, hz⟩ := box4 hg1
    simp only [WantS.val]
    go_wp2
    exact bodyPost_ret (results_cell_row rfl _ _ _ _ _ _ _ rfl (heap_set (heap_set (heap_set (heap_set hg1)))) Try.underlying44 rfl infoWant) rfl (close_step (g := w.heap.size + 3) (M := [⟨w.heap.size, #[.pointer (some ⟨p, 0, none⟩)], 37⟩, ⟨w.heap.size + 1, #[.int .i64 k], 2⟩, ⟨w.heap.size + 2, #[.int .i64 cell, .int .i64 q, .bool st, .int .i64 ky, .bool false], 74⟩, ⟨w.heap.size + 4, #[.func (.func 55) #[] #[.pointer (some ⟨w.heap.size, 0, none⟩), .pointer (some ⟨w.heap.size + 1, 0, none⟩), .pointer (some ⟨w.heap.size + 2, 0, none⟩)]], 45⟩]) (by repeat (first | exact grown_refl _ _ | refine grown_alloc ?_ _ | refine grown_drewN ?_ _ | refine grown_drew ?_)) hlt (by omega) (by simp) (by intro x hx; simp only [List.mem_cons, List.not_mem_nil, or_false] at hx; rcases hx with rfl | rfl | rfl | rfl <;> first | exact ⟨by simp, by simp, heap_new (by simp)⟩ | exact ⟨by simp, by simp, heap_old (heap_new (by simp))⟩ | exact ⟨by simp, by simp, heap_old (heap_old (heap_new (by simp)))⟩ | exact ⟨by simp, by simp, heap_old (heap_old (heap_old (heap_new (by simp))))⟩ | exact ⟨by simp, by simp, heap_old (heap_old (heap_old (heap_old (heap_new (by simp)))))⟩) ⟨rfl, post⟩ rfl)

set_option maxRecDepth 100000 in
set_option maxHeartbeats 3000000 in
theorem dels_step (w : World) (p : Nat) (base most : Int) (nx : Value) (B : List Ent) (cell q : Int) (st : Bool) (ky : Int) (a : Bool) (h : Lies w p base most nx) (hb : inB base most) (hq : a = true → leadsP most q) :
    Calls Try.prog 42 #[.pointer (some ⟨p, 0, none⟩), .agg #[.int .i64 cell, .int .i64 q, .bool st, .int .i64 ky, .bool a]] w (StepPost p base most B (delsK base ⟨cell, q, st, ky, a⟩) w) := by
  obtain ⟨⟨c0, c1, c2⟩, f2, hlt⟩ := lies3 h
  have HP := Lib.hid h
  have HB := Lib.hid hb
  obtain ⟨hb0, hb1, hm0, hm1⟩ := hb
  clear h
  cases a with
  | true =>
    have hl := hq rfl
    clear hq
    rw [show delsK base ⟨cell, q, st, ky, true⟩ = (readS (base + linkI q), .delQ ⟨cell, q, st, ky, true⟩) from rfl]
    go_enter Try.func42, Try.ntmps42
    go_wp2_with fail
    refine wp_region_still_tail 5 (by kernel_rfl) (by kernel_rfl) ?_
    change wpStill _ _ (World.drew _) (fun a' => wpList _ _ _ _ a' (World.drew _)) _ _
    simp only [List.take_succ_cons, List.take_zero, List.drop_succ_cons, List.drop_zero]
    repeat still_step
    still_call ((link_calls _ (q) (lead0 hl) (lead1 hl hm1)).mono fun _ _ h => ⟨h.1, h.2.symm⟩)
    repeat still_step
    refine wpStill_nil ?_
    go_wp2_with fail
    refine (read_step _ p base most nx ([⟨w.heap.size, #[.pointer (some ⟨p, 0, none⟩)], 37⟩, ⟨w.heap.size + 1, #[.int .i64 cell, .int .i64 q, .bool st, .int .i64 ky, .bool true], 74⟩] ++ B) (.delQ ⟨cell, q, st, ky, true⟩) (linkI q) 65 (#[]) (#[.pointer (some ⟨w.heap.size, 0, none⟩), .pointer (some ⟨w.heap.size + 1, 0, none⟩)]) (by first | exact HP.out | exact heap_old HP.out | exact heap_old (heap_old HP.out) | exact heap_old (heap_old (heap_old HP.out)) | exact heap_old (heap_old (heap_old (heap_old HP.out))) | exact heap_old (heap_old (heap_old (heap_old (heap_old HP.out)))) | exact heap_old (heap_old (heap_old (heap_old (heap_old (heap_old HP.out)))))) HB.out (linkR hl hm1) ⟨_, _, (List.mem_append_left _ List.mem_cons_self), (List.mem_append_left _ (List.mem_cons_of_mem _ List.mem_cons_self)), rfl⟩).mono ?_
    rintro e w1 ⟨rfl, post⟩
    have hg1 := box_grown post.1 (show (World.heap _)[w.heap.size + 2]? = some (.cells #[.int .i64 0, .int .i64 0, .int .i64 0, .int .i64 0] 44 (0, 0)) from heap_new (by simp)) (by omega)
    obtain ⟨⟨d0, d1, d2, d3⟩, ⟨g0, g1, g2, g3⟩, hz⟩ := box4 hg1
    simp only [WantS.val]
    go_wp2
    exact bodyPost_ret (results_cell_row rfl _ _ _ _ _ _ _ rfl (heap_set (heap_set (heap_set (heap_set hg1)))) Try.underlying44 rfl infoWant) rfl (close_step (g := w.heap.size + 2) (M := [⟨w.heap.size, #[.pointer (some ⟨p, 0, none⟩)], 37⟩, ⟨w.heap.size + 1, #[.int .i64 cell, .int .i64 q, .bool st, .int .i64 ky, .bool true], 74⟩]) (by repeat (first | exact grown_refl _ _ | refine grown_alloc ?_ _ | refine grown_drewN ?_ _ | refine grown_drew ?_)) hlt (by omega) (by simp) (by intro x hx; simp only [List.mem_cons, List.not_mem_nil, or_false] at hx; rcases hx with rfl | rfl <;> first | exact ⟨by simp, by simp, heap_new (by simp)⟩ | exact ⟨by simp, by simp, heap_old (heap_new (by simp))⟩ | exact ⟨by simp, by simp, heap_old (heap_old (heap_new (by simp)))⟩) ⟨rfl, post⟩ rfl)
  | false =>
    rw [show delsK base ⟨cell, q, st, ky, false⟩ = endK 0 1 from rfl]
    clear hq
    go_enter Try.func42, Try.ntmps42
    go_wp2_with fail
    refine (done_step _ p base most nx (B) (0) (1) (by first | exact HP.out | exact heap_old HP.out | exact heap_old (heap_old HP.out) | exact heap_old (heap_old (heap_old HP.out)) | exact heap_old (heap_old (heap_old (heap_old HP.out))) | exact heap_old (heap_old (heap_old (heap_old (heap_old HP.out)))) | exact heap_old (heap_old (heap_old (heap_old (heap_old (heap_old HP.out))))))).mono ?_
    rintro e w1 ⟨rfl, post⟩
    have hg1 := box_grown post.1 (show (World.heap _)[w.heap.size + 2]? = some (.cells #[.int .i64 0, .int .i64 0, .int .i64 0, .int .i64 0] 44 (0, 0)) from heap_new (by simp)) (by omega)
    obtain ⟨⟨d0, d1, d2, d3⟩, ⟨g0, g1, g2, g3⟩, hz⟩ := box4 hg1
    simp only [WantS.val, endK]
    go_wp2
    exact bodyPost_ret (results_cell_row rfl _ _ _ _ _ _ _ rfl (heap_set (heap_set (heap_set (heap_set hg1)))) Try.underlying44 rfl infoWant) rfl (close_step (g := w.heap.size + 2) (M := []) (by repeat (first | exact grown_refl _ _ | refine grown_alloc ?_ _ | refine grown_drewN ?_ _ | refine grown_drew ?_)) hlt (by omega) (by simp) (fun x hx => nomatch hx) ⟨rfl, post⟩ rfl)

set_option maxRecDepth 100000 in
set_option maxHeartbeats 3000000 in
theorem above_step (w : World) (p : Nat) (base most : Int) (nx : Value) (B : List Ent) (cell q : Int) (st : Bool) (ky : Int) (a : Bool) (h : Lies w p base most nx) (hb : inB base most) (hq : a = true → leadsP most q) :
    Calls Try.prog 44 #[.pointer (some ⟨p, 0, none⟩), .agg #[.int .i64 cell, .int .i64 q, .bool st, .int .i64 ky, .bool a]] w (StepPost p base most B (aboveK base ⟨cell, q, st, ky, a⟩) w) := by
  obtain ⟨⟨c0, c1, c2⟩, f2, hlt⟩ := lies3 h
  have HP := Lib.hid h
  have HB := Lib.hid hb
  obtain ⟨hb0, hb1, hm0, hm1⟩ := hb
  clear h
  cases a with
  | true =>
    have hl := hq rfl
    clear hq
    rw [show aboveK base ⟨cell, q, st, ky, true⟩ = (readS (base + linkI q), .keyOf) from rfl]
    go_enter Try.func44, Try.ntmps44
    go_wp2_with fail
    refine (link_calls _ (q) (lead0 hl) (lead1 hl hm1)).mono ?_
    rintro e w' ⟨rfl, rfl⟩
    go_wp2_with fail
    refine (read_step _ p base most nx (B) (.keyOf) (linkI q) 35 (#[.pointer (some ⟨p, 0, none⟩)]) (#[]) (by first | exact HP.out | exact heap_old HP.out | exact heap_old (heap_old HP.out) | exact heap_old (heap_old (heap_old HP.out)) | exact heap_old (heap_old (heap_old (heap_old HP.out))) | exact heap_old (heap_old (heap_old (heap_old (heap_old HP.out)))) | exact heap_old (heap_old (heap_old (heap_old (heap_old (heap_old HP.out)))))) HB.out (linkR hl hm1) rfl).mono ?_
    rintro e w1 ⟨rfl, post⟩
    have hg1 := box_grown post.1 (show (World.heap _)[w.heap.size + 1]? = some (.cells #[.int .i64 0, .int .i64 0, .int .i64 0, .int .i64 0] 44 (0, 0)) from heap_new (by simp)) (by omega)
    obtain ⟨⟨d0, d1, d2, d3⟩, ⟨g0, g1, g2, g3⟩, hz⟩ := box4 hg1
    simp only [WantS.val]
    go_wp2
    exact bodyPost_ret (results_cell_row rfl _ _ _ _ _ _ _ rfl (heap_set (heap_set (heap_set (heap_set hg1)))) Try.underlying44 rfl infoWant) rfl (close_step (g := w.heap.size + 1) (M := []) (by repeat (first | exact grown_refl _ _ | refine grown_alloc ?_ _ | refine grown_drewN ?_ _ | refine grown_drew ?_)) hlt (by omega) (by simp) (fun x hx => nomatch hx) ⟨rfl, post⟩ rfl)
  | false =>
    clear hq
    cases st with
    | true =>
      rw [show aboveK base ⟨cell, q, true, ky, false⟩ = endK ky 0 from rfl]
      go_enter Try.func44, Try.ntmps44
      go_wp2_with fail
      refine (done_step _ p base most nx (B) (ky) (0) (by first | exact HP.out | exact heap_old HP.out | exact heap_old (heap_old HP.out) | exact heap_old (heap_old (heap_old HP.out)) | exact heap_old (heap_old (heap_old (heap_old HP.out))) | exact heap_old (heap_old (heap_old (heap_old (heap_old HP.out)))) | exact heap_old (heap_old (heap_old (heap_old (heap_old (heap_old HP.out))))))).mono ?_
      rintro e w1 ⟨rfl, post⟩
      have hg1 := box_grown post.1 (show (World.heap _)[w.heap.size + 1]? = some (.cells #[.int .i64 0, .int .i64 0, .int .i64 0, .int .i64 0] 44 (0, 0)) from heap_new (by simp)) (by omega)
      obtain ⟨⟨d0, d1, d2, d3⟩, ⟨g0, g1, g2, g3⟩, hz⟩ := box4 hg1
      simp only [WantS.val, endK]
      go_wp2
      exact bodyPost_ret (results_cell_row rfl _ _ _ _ _ _ _ rfl (heap_set (heap_set (heap_set (heap_set hg1)))) Try.underlying44 rfl infoWant) rfl (close_step (g := w.heap.size + 1) (M := []) (by repeat (first | exact grown_refl _ _ | refine grown_alloc ?_ _ | refine grown_drewN ?_ _ | refine grown_drew ?_)) hlt (by omega) (by simp) (fun x hx => nomatch hx) ⟨rfl, post⟩ rfl)
    | false =>
      rw [show aboveK base ⟨cell, q, false, ky, false⟩ = endK 0 1 from rfl]
      go_enter Try.func44, Try.ntmps44
      go_wp2_with fail
      refine (done_step _ p base most nx (B) (0) (1) (by first | exact HP.out | exact heap_old HP.out | exact heap_old (heap_old HP.out) | exact heap_old (heap_old (heap_old HP.out)) | exact heap_old (heap_old (heap_old (heap_old HP.out))) | exact heap_old (heap_old (heap_old (heap_old (heap_old HP.out)))) | exact heap_old (heap_old (heap_old (heap_old (heap_old (heap_old HP.out))))))).mono ?_
      rintro e w1 ⟨rfl, post⟩
      have hg1 := box_grown post.1 (show (World.heap _)[w.heap.size + 1]? = some (.cells #[.int .i64 0, .int .i64 0, .int .i64 0, .int .i64 0] 44 (0, 0)) from heap_new (by simp)) (by omega)
      obtain ⟨⟨d0, d1, d2, d3⟩, ⟨g0, g1, g2, g3⟩, hz⟩ := box4 hg1
      simp only [WantS.val, endK]
      go_wp2
      exact bodyPost_ret (results_cell_row rfl _ _ _ _ _ _ _ rfl (heap_set (heap_set (heap_set (heap_set hg1)))) Try.underlying44 rfl infoWant) rfl (close_step (g := w.heap.size + 1) (M := []) (by repeat (first | exact grown_refl _ _ | refine grown_alloc ?_ _ | refine grown_drewN ?_ _ | refine grown_drew ?_)) hlt (by omega) (by simp) (fun x hx => nomatch hx) ⟨rfl, post⟩ rfl)

set_option maxRecDepth 100000 in
set_option maxHeartbeats 3000000 in
theorem then_step (w : World) (p : Nat) (base most : Int) (nx : Value) (B : List Ent) (call k : Int) (cell q : Int) (st : Bool) (ky : Int) (a : Bool) (bc bx bk : Nat) (h : Lies w p base most nx) (hs : Store w p B) (hb : inB base most) (hbc : IB B call bc) (hbx : XB B p bx) (hbk : VB B k bk) (hq : a = true → leadsP most q) :
    Calls Try.prog 40 #[.agg #[.int .i64 cell, .int .i64 q, .bool st, .int .i64 ky, .bool a], .pointer (some ⟨bc, 0, none⟩), .pointer (some ⟨bx, 0, none⟩), .pointer (some ⟨bk, 0, none⟩)] w (StepPost p base most B (thenK base call k ⟨cell, q, st, ky, a⟩) w) := by
  obtain ⟨⟨c0, c1, c2⟩, f2, hlt⟩ := lies3 h
  have HP := Lib.hid h
  have HB := Lib.hid hb
  obtain ⟨hb0, hb1, hm0, hm1⟩ := hb
  obtain ⟨bc0, bcl, bcn⟩ := box_in hs hbc
  have Hbc := Lib.hid hbc
  obtain ⟨bx0, bxl, bxn⟩ := box_in hs hbx
  have Hbx := Lib.hid hbx
  obtain ⟨bk0, bkl, bkn⟩ := box_in hs hbk
  have Hbk := Lib.hid hbk
  have HS := Lib.hid hs
  clear h hs hbc hbx hbk
  have HQ := Lib.hid hq
  clear hq
  by_cases h1 : call = 1
  · subst h1
    rw [show thenK base 1 k ⟨cell, q, st, ky, a⟩ = addsK base k ⟨cell, q, st, ky, a⟩ from rfl]
    go_enter Try.func40, Try.ntmps40
    go_wp2_with fail
    refine (adds_step _ p base most nx B k cell q st ky a (by first | exact HP.out | exact heap_old HP.out | exact heap_old (heap_old HP.out) | exact heap_old (heap_old (heap_old HP.out)) | exact heap_old (heap_old (heap_old (heap_old HP.out))) | exact heap_old (heap_old (heap_old (heap_old (heap_old HP.out)))) | exact heap_old (heap_old (heap_old (heap_old (heap_old (heap_old HP.out)))))) HB.out).mono ?_
    rintro e w1 ⟨rfl, post⟩
    have hg1 := box_grown post.1 (show (World.heap _)[w.heap.size + 1]? = some (.cells #[.int .i64 0, .int .i64 0, .int .i64 0, .int .i64 0] 44 (0, 0)) from heap_new (by simp)) (by omega)
    obtain ⟨⟨d0, d1, d2, d3⟩, ⟨g0, g1, g2, g3⟩, hz⟩ := box4 hg1
    have POST := Lib.hid post
    clear post
    generalize addsK base k ⟨cell, q, st, ky, a⟩ = r at *
    obtain ⟨⟨r0, r1, r2, r3⟩, kk⟩ := r
    simp only [WantS.val]
    go_wp2
    exact bodyPost_ret (results_cell_row rfl _ _ _ _ _ _ _ rfl (heap_set (heap_set (heap_set (heap_set hg1)))) Try.underlying44 rfl infoWant) rfl (close_step (g := w.heap.size + 1) (M := []) (by repeat (first | exact grown_refl _ _ | refine grown_alloc ?_ _ | refine grown_drewN ?_ _ | refine grown_drew ?_)) hlt (by omega) (by simp) (fun x hx => nomatch hx) ⟨rfl, POST.out⟩ rfl)
  by_cases h4 : call = 4
  · subst h4
    rw [show thenK base 4 k ⟨cell, q, st, ky, a⟩ = delsK base ⟨cell, q, st, ky, a⟩ from rfl]
    go_enter Try.func40, Try.ntmps40
    go_wp2_with fail
    refine (dels_step _ p base most nx B cell q st ky a (by first | exact HP.out | exact heap_old HP.out | exact heap_old (heap_old HP.out) | exact heap_old (heap_old (heap_old HP.out)) | exact heap_old (heap_old (heap_old (heap_old HP.out))) | exact heap_old (heap_old (heap_old (heap_old (heap_old HP.out)))) | exact heap_old (heap_old (heap_old (heap_old (heap_old (heap_old HP.out)))))) HB.out HQ.out).mono ?_
    rintro e w1 ⟨rfl, post⟩
    have hg1 := box_grown post.1 (show (World.heap _)[w.heap.size + 1]? = some (.cells #[.int .i64 0, .int .i64 0, .int .i64 0, .int .i64 0] 44 (0, 0)) from heap_new (by simp)) (by omega)
    obtain ⟨⟨d0, d1, d2, d3⟩, ⟨g0, g1, g2, g3⟩, hz⟩ := box4 hg1
    have POST := Lib.hid post
    clear post
    generalize delsK base ⟨cell, q, st, ky, a⟩ = r at *
    obtain ⟨⟨r0, r1, r2, r3⟩, kk⟩ := r
    simp only [WantS.val]
    go_wp2
    exact bodyPost_ret (results_cell_row rfl _ _ _ _ _ _ _ rfl (heap_set (heap_set (heap_set (heap_set hg1)))) Try.underlying44 rfl infoWant) rfl (close_step (g := w.heap.size + 1) (M := []) (by repeat (first | exact grown_refl _ _ | refine grown_alloc ?_ _ | refine grown_drewN ?_ _ | refine grown_drew ?_)) hlt (by omega) (by simp) (fun x hx => nomatch hx) ⟨rfl, POST.out⟩ rfl)
  by_cases h6 : call = 6
  · subst h6
    rw [show thenK base 6 k ⟨cell, q, st, ky, a⟩ = hasK ⟨cell, q, st, ky, a⟩ from rfl]
    cases a with
    | true =>
      rw [show hasK ⟨cell, q, st, ky, true⟩ = endK 1 0 from rfl]
      go_enter Try.func40, Try.ntmps40
      go_wp2_with fail
      refine (done_step _ p base most nx (B) (1) (0) (by first | exact HP.out | exact heap_old HP.out | exact heap_old (heap_old HP.out) | exact heap_old (heap_old (heap_old HP.out)) | exact heap_old (heap_old (heap_old (heap_old HP.out))) | exact heap_old (heap_old (heap_old (heap_old (heap_old HP.out)))) | exact heap_old (heap_old (heap_old (heap_old (heap_old (heap_old HP.out))))))).mono ?_
      rintro e w1 ⟨rfl, post⟩
      have hg1 := box_grown post.1 (show (World.heap _)[w.heap.size + 1]? = some (.cells #[.int .i64 0, .int .i64 0, .int .i64 0, .int .i64 0] 44 (0, 0)) from heap_new (by simp)) (by omega)
      obtain ⟨⟨d0, d1, d2, d3⟩, ⟨g0, g1, g2, g3⟩, hz⟩ := box4 hg1
      simp only [WantS.val, endK]
      go_wp2
      exact bodyPost_ret (results_cell_row rfl _ _ _ _ _ _ _ rfl (heap_set (heap_set (heap_set (heap_set hg1)))) Try.underlying44 rfl infoWant) rfl (close_step (g := w.heap.size + 1) (M := []) (by repeat (first | exact grown_refl _ _ | refine grown_alloc ?_ _ | refine grown_drewN ?_ _ | refine grown_drew ?_)) hlt (by omega) (by simp) (fun x hx => nomatch hx) ⟨rfl, post⟩ rfl)
    | false =>
      rw [show hasK ⟨cell, q, st, ky, false⟩ = endK 0 0 from rfl]
      go_enter Try.func40, Try.ntmps40
      go_wp2_with fail
      refine (done_step _ p base most nx (B) (0) (0) (by first | exact HP.out | exact heap_old HP.out | exact heap_old (heap_old HP.out) | exact heap_old (heap_old (heap_old HP.out)) | exact heap_old (heap_old (heap_old (heap_old HP.out))) | exact heap_old (heap_old (heap_old (heap_old (heap_old HP.out)))) | exact heap_old (heap_old (heap_old (heap_old (heap_old (heap_old HP.out))))))).mono ?_
      rintro e w1 ⟨rfl, post⟩
      have hg1 := box_grown post.1 (show (World.heap _)[w.heap.size + 1]? = some (.cells #[.int .i64 0, .int .i64 0, .int .i64 0, .int .i64 0] 44 (0, 0)) from heap_new (by simp)) (by omega)
      obtain ⟨⟨d0, d1, d2, d3⟩, ⟨g0, g1, g2, g3⟩, hz⟩ := box4 hg1
      simp only [WantS.val, endK]
      go_wp2
      exact bodyPost_ret (results_cell_row rfl _ _ _ _ _ _ _ rfl (heap_set (heap_set (heap_set (heap_set hg1)))) Try.underlying44 rfl infoWant) rfl (close_step (g := w.heap.size + 1) (M := []) (by repeat (first | exact grown_refl _ _ | refine grown_alloc ?_ _ | refine grown_drewN ?_ _ | refine grown_drew ?_)) hlt (by omega) (by simp) (fun x hx => nomatch hx) ⟨rfl, post⟩ rfl)
  rw [show thenK base call k ⟨cell, q, st, ky, a⟩ = aboveK base ⟨cell, q, st, ky, a⟩ from by unfold thenK; rw [if_neg h1, if_neg h4, if_neg h6]]
  have h1' : (call == 1) = false := by simpa using h1
  have h4' : (call == 4) = false := by simpa using h4
  have h6' : (call == 6) = false := by simpa using h6
  go_enter Try.func40, Try.ntmps40
  go_wp2_with fail
  refine (above_step _ p base most nx B cell q st ky a (by first | exact HP.out | exact heap_old HP.out | exact heap_old (heap_old HP.out) | exact heap_old (heap_old (heap_old HP.out)) | exact heap_old (heap_old (heap_old (heap_old HP.out))) | exact heap_old (heap_old (heap_old (heap_old (heap_old HP.out)))) | exact heap_old (heap_old (heap_old (heap_old (heap_old (heap_old HP.out)))))) HB.out HQ.out).mono ?_
  rintro e w1 ⟨rfl, post⟩
  have hg1 := box_grown post.1 (show (World.heap _)[w.heap.size + 1]? = some (.cells #[.int .i64 0, .int .i64 0, .int .i64 0, .int .i64 0] 44 (0, 0)) from heap_new (by simp)) (by omega)
  obtain ⟨⟨d0, d1, d2, d3⟩, ⟨g0, g1, g2, g3⟩, hz⟩ := box4 hg1
  have POST := Lib.hid post
  clear post
  generalize aboveK base ⟨cell, q, st, ky, a⟩ = r at *
  obtain ⟨⟨r0, r1, r2, r3⟩, kk⟩ := r
  simp only [WantS.val]
  go_wp2
  exact bodyPost_ret (results_cell_row rfl _ _ _ _ _ _ _ rfl (heap_set (heap_set (heap_set (heap_set hg1)))) Try.underlying44 rfl infoWant) rfl (close_step (g := w.heap.size + 1) (M := []) (by repeat (first | exact grown_refl _ _ | refine grown_alloc ?_ _ | refine grown_drewN ?_ _ | refine grown_drew ?_)) hlt (by omega) (by simp) (fun x hx => nomatch hx) ⟨rfl, POST.out⟩ rfl)

end Go.Proofs.Ytihlbhlagpmbjaa
