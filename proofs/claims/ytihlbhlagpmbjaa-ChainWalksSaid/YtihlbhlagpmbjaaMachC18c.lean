/- The chain's machine: the contracts of its closures (printed by gen_mach18.py). -/
import Derived.Test.YtihlbhlagpmbjaaMachC18a
import Derived.Test.YtihlbhlagpmbjaaMachC18b
namespace Go.Proofs.Ytihlbhlagpmbjaa
open Go.RowKit

set_option maxRecDepth 100000 in
set_option maxHeartbeats 2000000 in
theorem goes1_step (w : World) (p : Nat) (base most : Int) (nx : Value) (B : List Ent) (call k cell n v : Int) (bx bn bt t1 t2 t3 bc bk : Nat) (h : Lies w p base most nx) (hs : Store w p B) (hb : inB base most) (hbx : XB B p bx) (hbn : VB B n bn) (hbt : ⟨bt, #[.func (.func 40) #[] #[.pointer (some ⟨t1, 0, none⟩), .pointer (some ⟨t2, 0, none⟩), .pointer (some ⟨t3, 0, none⟩)]], 76⟩ ∈ B) (ht1 : IB B call t1) (ht2 : XB B p t2) (ht3 : VB B k t3) (hbc : IB B cell bc) (hbk : VB B k bk) (hn : 0 ≤ n ∧ n ≤ most) :
    Calls Try.prog 53 #[.int .i64 v, .pointer (some ⟨bx, 0, none⟩), .pointer (some ⟨bn, 0, none⟩), .pointer (some ⟨bt, 0, none⟩), .pointer (some ⟨bc, 0, none⟩), .pointer (some ⟨bk, 0, none⟩)] w (StepPost p base most B (goK base most (.goes call k cell n) v) w) := by
  obtain ⟨⟨c0, c1, c2⟩, f2, hlt⟩ := lies3 h
  have HP := Lib.hid h
  have HB := Lib.hid hb
  obtain ⟨hb0, hb1, hm0, hm1⟩ := hb
  obtain ⟨bx0, bxl, bxn⟩ := box_in hs hbx
  have Hbx := Lib.hid hbx
  obtain ⟨bn0, bnl, bnn⟩ := box_in hs hbn
  have Hbn := Lib.hid hbn
  obtain ⟨bt0, btl, btn⟩ := box_in hs hbt
  have Hbt := Lib.hid hbt
  obtain ⟨t10, t1l, t1n⟩ := box_in hs ht1
  have Ht1 := Lib.hid ht1
  obtain ⟨t20, t2l, t2n⟩ := box_in hs ht2
  have Ht2 := Lib.hid ht2
  obtain ⟨t30, t3l, t3n⟩ := box_in hs ht3
  have Ht3 := Lib.hid ht3
  obtain ⟨bc0, bcl, bcn⟩ := box_in hs hbc
  have Hbc := Lib.hid hbc
  obtain ⟨bk0, bkl, bkn⟩ := box_in hs hbk
  have Hbk := Lib.hid hbk
  have HS := Lib.hid hs
  clear h hs hbx hbn hbt ht1 ht2 ht3 hbc hbk
  obtain ⟨hn0, hn1⟩ := hn
  by_cases hl : leadsP most v
  · by_cases hne : n = most
    · rw [show goK base most (.goes call k cell n) v = thenK base call k ⟨cell, v, false, 0, false⟩ from if_neg (fun h => h.2 hne)]
      have hne' : (n == most) = true := by simpa using hne
      clear hne
      go_enter Try.func53, Try.ntmps53
      go_wp2_with fail
      go_quiet ((go_at_call 50; exact just_drew (fun W hW => leads_t (p := p) (base := base) (most := most) (nx := nx) (lies_at (heap_old (heap_old HP.out)) hW) hl) _))
      go_wp2_with fail
      refine (then_step _ p base most nx B call k cell v false 0 false t1 t2 t3 (by first | exact HP.out | exact heap_old HP.out | exact heap_old (heap_old HP.out) | exact heap_old (heap_old (heap_old HP.out)) | exact heap_old (heap_old (heap_old (heap_old HP.out))) | exact heap_old (heap_old (heap_old (heap_old (heap_old HP.out)))) | exact heap_old (heap_old (heap_old (heap_old (heap_old (heap_old HP.out)))))) (HS.out.keep (by repeat (first | exact grown_refl _ _ | refine grown_alloc ?_ _ | refine grown_drewN ?_ _ | refine grown_drew ?_))) HB.out Ht1.out Ht2.out Ht3.out (fun h => by cases h)).mono ?_
      rintro e w1 ⟨rfl, post⟩
      have hg1 := box_grown post.1 (show (World.heap _)[w.heap.size + 1]? = some (.cells #[.int .i64 0, .int .i64 0, .int .i64 0, .int .i64 0] 44 (0, 0)) from heap_new (by simp)) (by omega)
      obtain ⟨⟨d0, d1, d2, d3⟩, ⟨g0, g1, g2, g3⟩, hz⟩ := box4 hg1
      have POST := Lib.hid post
      clear post
      generalize thenK base call k ⟨cell, v, false, 0, false⟩ = r at *
      obtain ⟨⟨r0, r1, r2, r3⟩, kk⟩ := r
      simp only [WantS.val]
      go_wp2
      exact bodyPost_ret (results_cell_row rfl _ _ _ _ _ _ _ rfl (heap_set (heap_set (heap_set (heap_set hg1)))) Try.underlying44 rfl infoWant) rfl (close_step (g := w.heap.size + 1) (M := []) (by repeat (first | exact grown_refl _ _ | refine grown_alloc ?_ _ | refine grown_drewN ?_ _ | refine grown_drew ?_)) hlt (by omega) (by simp) (fun x hx => nomatch hx) ⟨rfl, POST.out⟩ rfl)
    · rw [show goK base most (.goes call k cell n) v = (readS (base + keyI v), .goes1 call k cell n v) from if_pos ⟨hl, hne⟩]
      have hne' : (n == most) = false := by simpa using hne
      go_enter Try.func53, Try.ntmps53
      go_wp2_with fail
      go_quiet ((go_at_call 50; exact just_drew (fun W hW => leads_t (p := p) (base := base) (most := most) (nx := nx) (lies_at (heap_old (heap_old HP.out)) hW) hl) _))
      go_wp2_with fail
      refine wp_region_still_tail 4 (by kernel_rfl) (by kernel_rfl) ?_
      change wpStill _ _ (World.drew _) (fun a' => wpList _ _ _ _ a' (World.drew _)) _ _
      simp only [List.take_succ_cons, List.take_zero, List.drop_succ_cons, List.drop_zero]
      repeat still_step
      still_call ((key_calls _ (v) (lead0 hl) (lead1 hl hm1)).mono fun _ _ h => ⟨h.1, h.2.symm⟩)
      repeat still_step
      refine wpStill_nil ?_
      go_wp2_with fail
      refine (read_step _ p base most nx ([⟨w.heap.size, #[.int .i64 v], 2⟩] ++ B) (.goes1 call k cell n v) (keyI v) 54 (#[]) (#[.pointer (some ⟨bk, 0, none⟩), .pointer (some ⟨bt, 0, none⟩), .pointer (some ⟨bc, 0, none⟩), .pointer (some ⟨w.heap.size, 0, none⟩), .pointer (some ⟨bx, 0, none⟩), .pointer (some ⟨bn, 0, none⟩)]) (by first | exact HP.out | exact heap_old HP.out | exact heap_old (heap_old HP.out) | exact heap_old (heap_old (heap_old HP.out)) | exact heap_old (heap_old (heap_old (heap_old HP.out))) | exact heap_old (heap_old (heap_old (heap_old (heap_old HP.out)))) | exact heap_old (heap_old (heap_old (heap_old (heap_old (heap_old HP.out)))))) HB.out (keyR hl hm1) ⟨_, _, _, _, _, _, _, (List.mem_append_right _ Hbk.out), ⟨_, _, _, (List.mem_append_right _ Ht1.out), (List.mem_append_right _ Ht2.out), (List.mem_append_right _ Ht3.out), rfl⟩, (List.mem_append_right _ Hbt.out), (List.mem_append_right _ Hbc.out), (List.mem_append_left _ List.mem_cons_self), (List.mem_append_right _ Hbx.out), (List.mem_append_right _ Hbn.out), rfl⟩).mono ?_
      rintro e w1 ⟨rfl, post⟩
      have hg1 := box_grown post.1 (show (World.heap _)[w.heap.size + 1]? = some (.cells #[.int .i64 0, .int .i64 0, .int .i64 0, .int .i64 0] 44 (0, 0)) from heap_new (by simp)) (by omega)
      obtain ⟨⟨d0, d1, d2, d3⟩, ⟨g0, g1, g2, g3⟩, hz⟩ := box4 hg1
      simp only [WantS.val]
      go_wp2
      exact bodyPost_ret (results_cell_row rfl _ _ _ _ _ _ _ rfl (heap_set (heap_set (heap_set (heap_set hg1)))) Try.underlying44 rfl infoWant) rfl (close_step (g := w.heap.size + 1) (M := [⟨w.heap.size, #[.int .i64 v], 2⟩]) (by repeat (first | exact grown_refl _ _ | refine grown_alloc ?_ _ | refine grown_drewN ?_ _ | refine grown_drew ?_)) hlt (by omega) (by simp) (by intro x hx; simp only [List.mem_cons, List.not_mem_nil, or_false] at hx; rcases hx with rfl <;> first | exact ⟨by simp, by simp, heap_new (by simp)⟩ | exact ⟨by simp, by simp, heap_old (heap_new (by simp))⟩) ⟨rfl, post⟩ rfl)
  · rw [show goK base most (.goes call k cell n) v = thenK base call k ⟨cell, v, false, 0, false⟩ from if_neg (fun h => hl h.1)]
    go_enter Try.func53, Try.ntmps53
    go_wp2_with fail
    go_quiet ((go_at_call 50; exact just_drew (fun W hW => leads_f (p := p) (base := base) (most := most) (nx := nx) (lies_at (heap_old (heap_old HP.out)) hW) hl) _))
    go_wp2_with fail
    refine (then_step _ p base most nx B call k cell v false 0 false t1 t2 t3 (by first | exact HP.out | exact heap_old HP.out | exact heap_old (heap_old HP.out) | exact heap_old (heap_old (heap_old HP.out)) | exact heap_old (heap_old (heap_old (heap_old HP.out))) | exact heap_old (heap_old (heap_old (heap_old (heap_old HP.out)))) | exact heap_old (heap_old (heap_old (heap_old (heap_old (heap_old HP.out)))))) (HS.out.keep (by repeat (first | exact grown_refl _ _ | refine grown_alloc ?_ _ | refine grown_drewN ?_ _ | refine grown_drew ?_))) HB.out Ht1.out Ht2.out Ht3.out (fun h => by cases h)).mono ?_
    rintro e w1 ⟨rfl, post⟩
    have hg1 := box_grown post.1 (show (World.heap _)[w.heap.size + 1]? = some (.cells #[.int .i64 0, .int .i64 0, .int .i64 0, .int .i64 0] 44 (0, 0)) from heap_new (by simp)) (by omega)
    obtain ⟨⟨d0, d1, d2, d3⟩, ⟨g0, g1, g2, g3⟩, hz⟩ := box4 hg1
    have POST := Lib.hid post
    clear post
    generalize thenK base call k ⟨cell, v, false, 0, false⟩ = r at *
    obtain ⟨⟨r0, r1, r2, r3⟩, kk⟩ := r
    simp only [WantS.val]
    go_wp2
    exact bodyPost_ret (results_cell_row rfl _ _ _ _ _ _ _ rfl (heap_set (heap_set (heap_set (heap_set hg1)))) Try.underlying44 rfl infoWant) rfl (close_step (g := w.heap.size + 1) (M := []) (by repeat (first | exact grown_refl _ _ | refine grown_alloc ?_ _ | refine grown_drewN ?_ _ | refine grown_drew ?_)) hlt (by omega) (by simp) (fun x hx => nomatch hx) ⟨rfl, POST.out⟩ rfl)
  

set_option maxRecDepth 100000 in
set_option maxHeartbeats 2000000 in
theorem goes11_step (w : World) (p : Nat) (base most : Int) (nx : Value) (B : List Ent) (call k cell n q v : Int) (bk bt t1 t2 t3 bc bp bx bn : Nat) (h : Lies w p base most nx) (hs : Store w p B) (hb : inB base most) (hbk : VB B k bk) (hbt : ⟨bt, #[.func (.func 40) #[] #[.pointer (some ⟨t1, 0, none⟩), .pointer (some ⟨t2, 0, none⟩), .pointer (some ⟨t3, 0, none⟩)]], 76⟩ ∈ B) (ht1 : IB B call t1) (ht2 : XB B p t2) (ht3 : VB B k t3) (hbc : IB B cell bc) (hbp : VB B q bp) (hbx : XB B p bx) (hbn : VB B n bn) (hn : 0 ≤ n ∧ n < most) (hl : leadsP most q) :
    Calls Try.prog 54 #[.int .i64 v, .pointer (some ⟨bk, 0, none⟩), .pointer (some ⟨bt, 0, none⟩), .pointer (some ⟨bc, 0, none⟩), .pointer (some ⟨bp, 0, none⟩), .pointer (some ⟨bx, 0, none⟩), .pointer (some ⟨bn, 0, none⟩)] w (StepPost p base most B (goK base most (.goes1 call k cell n q) v) w) := by
  obtain ⟨⟨c0, c1, c2⟩, f2, hlt⟩ := lies3 h
  have HP := Lib.hid h
  have HB := Lib.hid hb
  obtain ⟨hb0, hb1, hm0, hm1⟩ := hb
  obtain ⟨bk0, bkl, bkn⟩ := box_in hs hbk
  have Hbk := Lib.hid hbk
  obtain ⟨bt0, btl, btn⟩ := box_in hs hbt
  have Hbt := Lib.hid hbt
  obtain ⟨t10, t1l, t1n⟩ := box_in hs ht1
  have Ht1 := Lib.hid ht1
  obtain ⟨t20, t2l, t2n⟩ := box_in hs ht2
  have Ht2 := Lib.hid ht2
  obtain ⟨t30, t3l, t3n⟩ := box_in hs ht3
  have Ht3 := Lib.hid ht3
  obtain ⟨bc0, bcl, bcn⟩ := box_in hs hbc
  have Hbc := Lib.hid hbc
  obtain ⟨bp0, bpl, bpn⟩ := box_in hs hbp
  have Hbp := Lib.hid hbp
  obtain ⟨bx0, bxl, bxn⟩ := box_in hs hbx
  have Hbx := Lib.hid hbx
  obtain ⟨bn0, bnl, bnn⟩ := box_in hs hbn
  have Hbn := Lib.hid hbn
  have HS := Lib.hid hs
  clear h hs hbk hbt ht1 ht2 ht3 hbc hbp hbx hbn
  obtain ⟨hn0, hn1⟩ := hn
  by_cases hk : k ≤ v
  · rw [show goK base most (.goes1 call k cell n q) v = thenK base call k ⟨cell, q, true, v, v == k⟩ from if_pos hk]
    go_enter Try.func54, Try.ntmps54
    go_wp2_with fail
    refine (then_step _ p base most nx B call k cell q true v (v == k) t1 t2 t3 (by first | exact HP.out | exact heap_old HP.out | exact heap_old (heap_old HP.out) | exact heap_old (heap_old (heap_old HP.out)) | exact heap_old (heap_old (heap_old (heap_old HP.out))) | exact heap_old (heap_old (heap_old (heap_old (heap_old HP.out)))) | exact heap_old (heap_old (heap_old (heap_old (heap_old (heap_old HP.out)))))) (HS.out.keep (by repeat (first | exact grown_refl _ _ | refine grown_alloc ?_ _ | refine grown_drewN ?_ _ | refine grown_drew ?_))) HB.out Ht1.out Ht2.out Ht3.out (fun _ => hl)).mono ?_
    rintro e w1 ⟨rfl, post⟩
    have hg1 := box_grown post.1 (show (World.heap _)[w.heap.size]? = some (.cells #[.int .i64 0, .int .i64 0, .int .i64 0, .int .i64 0] 44 (0, 0)) from heap_new (by simp)) (by omega)
    obtain ⟨⟨d0, d1, d2, d3⟩, ⟨g0, g1, g2, g3⟩, hz⟩ := box4 hg1
    have POST := Lib.hid post
    clear post
    generalize thenK base call k ⟨cell, q, true, v, v == k⟩ = r at *
    obtain ⟨⟨r0, r1, r2, r3⟩, kk⟩ := r
    simp only [WantS.val]
    go_wp2
    exact bodyPost_ret (results_cell_row rfl _ _ _ _ _ _ _ rfl (heap_set (heap_set (heap_set (heap_set hg1)))) Try.underlying44 rfl infoWant) rfl (close_step (g := w.heap.size) (M := []) (by repeat (first | exact grown_refl _ _ | refine grown_alloc ?_ _ | refine grown_drewN ?_ _ | refine grown_drew ?_)) hlt (by omega) (by simp) (fun x hx => nomatch hx) ⟨rfl, POST.out⟩ rfl)
  · rw [show goK base most (.goes1 call k cell n q) v = (readS (base + linkI q), .goes call k (linkI q) (n + 1)) from if_neg hk]
    go_enter Try.func54, Try.ntmps54
    go_wp2_with fail
    refine wp_region_still_tail 7 (by kernel_rfl) (by kernel_rfl) ?_
    change wpStill _ _ (World.drew _) (fun a' => wpList _ _ _ _ a' (World.drew _)) _ _
    simp only [List.take_succ_cons, List.take_zero, List.drop_succ_cons, List.drop_zero]
    repeat still_step
    still_call ((link_calls _ (q) (lead0 hl) (lead1 hl hm1)).mono fun _ _ h => ⟨h.1, h.2.symm⟩)
    repeat still_step
    refine wpStill_nil ?_
    go_wp2_with fail
    refine (goes_step _ p base most nx B call k (linkI q) (n + 1) 40 #[] #[.pointer (some ⟨t1, 0, none⟩), .pointer (some ⟨t2, 0, none⟩), .pointer (some ⟨t3, 0, none⟩)] (by first | exact HP.out | exact heap_old HP.out | exact heap_old (heap_old HP.out) | exact heap_old (heap_old (heap_old HP.out)) | exact heap_old (heap_old (heap_old (heap_old HP.out))) | exact heap_old (heap_old (heap_old (heap_old (heap_old HP.out)))) | exact heap_old (heap_old (heap_old (heap_old (heap_old (heap_old HP.out)))))) HB.out (linkC hl hm1) (by omega) ⟨_, _, _, Ht1.out, Ht2.out, Ht3.out, rfl⟩).mono ?_
    rintro e w1 ⟨rfl, post⟩
    have hg1 := box_grown post.1 (show (World.heap _)[w.heap.size]? = some (.cells #[.int .i64 0, .int .i64 0, .int .i64 0, .int .i64 0] 44 (0, 0)) from heap_new (by simp)) (by omega)
    obtain ⟨⟨d0, d1, d2, d3⟩, ⟨g0, g1, g2, g3⟩, hz⟩ := box4 hg1
    simp only [WantS.val]
    go_wp2
    exact bodyPost_ret (results_cell_row rfl _ _ _ _ _ _ _ rfl (heap_set (heap_set (heap_set (heap_set hg1)))) Try.underlying44 rfl infoWant) rfl (close_step (g := w.heap.size) (M := []) (by repeat (first | exact grown_refl _ _ | refine grown_alloc ?_ _ | refine grown_drewN ?_ _ | refine grown_drew ?_)) hlt (by omega) (by simp) (fun x hx => nomatch hx) ⟨rfl, post⟩ rfl)
  

end Go.Proofs.Ytihlbhlagpmbjaa
