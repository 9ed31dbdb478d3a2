/- The chain's machine: the contracts of its closures (printed by gen_mach18.py). -/
import Derived.Test.YtihlbhlagpmbjaaMachB18
namespace Go.Proofs.Ytihlbhlagpmbjaa
open Go.RowKit

set_option maxRecDepth 100000 in
set_option maxHeartbeats 3000000 in
theorem lays_step (w : World) (p : Nat) (base most : Int) (nx : Value) (B : List Ent) (k node : Int) (d : WayD) (bx bk : Nat) (h : Lies w p base most nx) (hs : Store w p B) (hb : inB base most) (hbx : XB B p bx) (hbk : VB B k bk) (bw : Nat) (hbw : WB B d bw) (hl : leadsP most node) :
    Calls Try.prog 55 #[.int .i64 node, .pointer (some ⟨bx, 0, none⟩), .pointer (some ⟨bk, 0, none⟩), .pointer (some ⟨bw, 0, none⟩)] w (StepPost p base most B (laysK base k d node) w) := by
  obtain ⟨⟨c0, c1, c2⟩, f2, hlt⟩ := lies3 h
  have HP := Lib.hid h
  have HB := Lib.hid hb
  obtain ⟨hb0, hb1, hm0, hm1⟩ := hb
  obtain ⟨bx0, bxl, bxn⟩ := box_in hs hbx
  have Hbx := Lib.hid hbx
  obtain ⟨bk0, bkl, bkn⟩ := box_in hs hbk
  have Hbk := Lib.hid hbk
  have HS := Lib.hid hs
  clear h hs hbx hbk
  have Hbw := Lib.hid hbw
  clear hbw
  rw [show laysK base k d node = (putS (base + keyI node) k, .put (.key k d node)) from rfl]
  go_enter Try.func55, Try.ntmps55
  go_wp2_with fail
  refine wp_region_still_tail 5 (by kernel_rfl) (by kernel_rfl) ?_
  change wpStill _ _ (World.drew _) (fun a' => wpList _ _ _ _ a' (World.drew _)) _ _
  simp only [List.take_succ_cons, List.take_zero, List.drop_succ_cons, List.drop_zero]
  repeat still_step
  still_call ((key_calls _ (node) (lead0 hl) (lead1 hl hm1)).mono fun _ _ h => ⟨h.1, h.2.symm⟩)
  repeat still_step
  refine wpStill_nil ?_
  go_wp2_with fail
  refine (write_step _ p base most nx ([⟨w.heap.size, #[.int .i64 node], 2⟩] ++ B) (.key k d node) (keyI node) (k) 57 #[] (#[.pointer (some ⟨bx, 0, none⟩), .pointer (some ⟨w.heap.size, 0, none⟩), .pointer (some ⟨bw, 0, none⟩)]) (by first | exact HP.out | exact heap_old HP.out | exact heap_old (heap_old HP.out) | exact heap_old (heap_old (heap_old HP.out)) | exact heap_old (heap_old (heap_old (heap_old HP.out))) | exact heap_old (heap_old (heap_old (heap_old (heap_old HP.out)))) | exact heap_old (heap_old (heap_old (heap_old (heap_old (heap_old HP.out)))))) HB.out (keyR hl hm1) ⟨_, _, _, (List.mem_append_right _ Hbx.out), (List.mem_append_left _ List.mem_cons_self), (List.mem_append_right _ Hbw.out), rfl⟩).mono ?_
  rintro e w1 ⟨rfl, post⟩
  have hg1 := box_grown post.1 (show (World.heap _)[w.heap.size + 1]? = some (.cells #[.int .i64 0, .int .i64 0, .int .i64 0, .int .i64 0] 44 (0, 0)) from heap_new (by simp)) (by omega)
  obtain ⟨⟨d0, d1, d2, d3⟩, ⟨g0, g1, g2, g3⟩, hz⟩ := box4 hg1
  simp only [WantS.val]
  go_wp2
  exact bodyPost_ret (results_cell_row rfl _ _ _ _ _ _ _ rfl (heap_set (heap_set (heap_set (heap_set hg1)))) Try.underlying44 rfl infoWant) rfl (close_step (g := w.heap.size + 1) (M := [⟨w.heap.size, #[.int .i64 node], 2⟩]) (by repeat (first | exact grown_refl _ _ | refine grown_alloc ?_ _ | refine grown_drewN ?_ _ | refine grown_drew ?_)) hlt (by omega) (by simp) (by intro x hx; simp only [List.mem_cons, List.not_mem_nil, or_false] at hx; rcases hx with rfl <;> first | exact ⟨by simp, by simp, heap_new (by simp)⟩ | exact ⟨by simp, by simp, heap_old (heap_new (by simp))⟩) ⟨rfl, post⟩ rfl)

set_option maxRecDepth 100000 in
set_option maxHeartbeats 3000000 in
theorem addF_step (w : World) (p : Nat) (base most : Int) (nx : Value) (B : List Ent) (k v : Int) (d : WayD) (bx bl : Nat) (h : Lies w p base most nx) (hs : Store w p B) (hb : inB base most) (hbx : XB B p bx) (hbl : LaysB B p k d bl) :
    Calls Try.prog 60 #[.int .i64 v, .pointer (some ⟨bx, 0, none⟩), .pointer (some ⟨bl, 0, none⟩)] w (StepPost p base most B (goK base most (.addF k d) v) w) := by
  obtain ⟨⟨c0, c1, c2⟩, f2, hlt⟩ := lies3 h
  have HP := Lib.hid h
  have HB := Lib.hid hb
  obtain ⟨hb0, hb1, hm0, hm1⟩ := hb
  obtain ⟨bx0, bxl, bxn⟩ := box_in hs hbx
  have Hbx := Lib.hid hbx
  have HS := Lib.hid hs
  clear h hs hbx
  have Hbl := Lib.hid hbl
  clear hbl
  by_cases hl : leadsP most v
  · rw [show goK base most (.addF k d) v = (readS (base + linkI v), .addQ k d v) from if_pos hl]
    go_enter Try.func60, Try.ntmps60
    go_wp2_with fail
    refine (leads_t (by first | exact HP.out | exact heap_old HP.out | exact heap_old (heap_old HP.out) | exact heap_old (heap_old (heap_old HP.out)) | exact heap_old (heap_old (heap_old (heap_old HP.out))) | exact heap_old (heap_old (heap_old (heap_old (heap_old HP.out)))) | exact heap_old (heap_old (heap_old (heap_old (heap_old (heap_old HP.out)))))) hl).mono ?_
    rintro e w' ⟨rfl, rfl⟩
    go_wp2_with fail
    refine wp_region_still_tail 4 (by kernel_rfl) (by kernel_rfl) ?_
    change wpStill _ _ (World.drew _) (fun a' => wpList _ _ _ _ a' (World.drew _)) _ _
    simp only [List.take_succ_cons, List.take_zero, List.drop_succ_cons, List.drop_zero]
    repeat still_step
    still_call ((link_calls _ (v) (lead0 hl) (lead1 hl hm1)).mono fun _ _ h => ⟨h.1, h.2.symm⟩)
    repeat still_step
    refine wpStill_nil ?_
    go_wp2_with fail
    refine (read_step _ p base most nx ([⟨w.heap.size, #[.int .i64 v], 2⟩] ++ B) (.addQ k d v) (linkI v) 61 (#[]) (#[.pointer (some ⟨bx, 0, none⟩), .pointer (some ⟨bl, 0, none⟩), .pointer (some ⟨w.heap.size, 0, none⟩)]) (by first | exact HP.out | exact heap_old HP.out | exact heap_old (heap_old HP.out) | exact heap_old (heap_old (heap_old HP.out)) | exact heap_old (heap_old (heap_old (heap_old HP.out))) | exact heap_old (heap_old (heap_old (heap_old (heap_old HP.out)))) | exact heap_old (heap_old (heap_old (heap_old (heap_old (heap_old HP.out)))))) HB.out (linkR hl hm1) ⟨_, _, _, (List.mem_append_right _ Hbx.out), Hbl.out.mono (fun e he => List.mem_append_right _ he), (List.mem_append_left _ List.mem_cons_self), rfl⟩).mono ?_
    rintro e w1 ⟨rfl, post⟩
    have hg1 := box_grown post.1 (show (World.heap _)[w.heap.size + 1]? = some (.cells #[.int .i64 0, .int .i64 0, .int .i64 0, .int .i64 0] 44 (0, 0)) from heap_new (by simp)) (by omega)
    obtain ⟨⟨d0, d1, d2, d3⟩, ⟨g0, g1, g2, g3⟩, hz⟩ := box4 hg1
    simp only [WantS.val]
    go_wp2
    exact bodyPost_ret (results_cell_row rfl _ _ _ _ _ _ _ rfl (heap_set (heap_set (heap_set (heap_set hg1)))) Try.underlying44 rfl infoWant) rfl (close_step (g := w.heap.size + 1) (M := [⟨w.heap.size, #[.int .i64 v], 2⟩]) (by repeat (first | exact grown_refl _ _ | refine grown_alloc ?_ _ | refine grown_drewN ?_ _ | refine grown_drew ?_)) hlt (by omega) (by simp) (by intro x hx; simp only [List.mem_cons, List.not_mem_nil, or_false] at hx; rcases hx with rfl <;> first | exact ⟨by simp, by simp, heap_new (by simp)⟩ | exact ⟨by simp, by simp, heap_old (heap_new (by simp))⟩) ⟨rfl, post⟩ rfl)
  · rw [show goK base most (.addF k d) v = (readS (base + 2), .addU k d) from if_neg hl]
    go_enter Try.func60, Try.ntmps60
    go_wp2_with fail
    refine (leads_f (by first | exact HP.out | exact heap_old HP.out | exact heap_old (heap_old HP.out) | exact heap_old (heap_old (heap_old HP.out)) | exact heap_old (heap_old (heap_old (heap_old HP.out))) | exact heap_old (heap_old (heap_old (heap_old (heap_old HP.out)))) | exact heap_old (heap_old (heap_old (heap_old (heap_old (heap_old HP.out)))))) hl).mono ?_
    rintro e w' ⟨rfl, rfl⟩
    go_wp2_with fail
    refine (read_step _ p base most nx (B) (.addU k d) (2) 63 (#[]) (#[.pointer (some ⟨bx, 0, none⟩), .pointer (some ⟨bl, 0, none⟩)]) (by first | exact HP.out | exact heap_old HP.out | exact heap_old (heap_old HP.out) | exact heap_old (heap_old (heap_old HP.out)) | exact heap_old (heap_old (heap_old (heap_old HP.out))) | exact heap_old (heap_old (heap_old (heap_old (heap_old HP.out)))) | exact heap_old (heap_old (heap_old (heap_old (heap_old (heap_old HP.out)))))) HB.out (by omega) ⟨_, _, Hbx.out, Hbl.out, rfl⟩).mono ?_
    rintro e w1 ⟨rfl, post⟩
    have hg1 := box_grown post.1 (show (World.heap _)[w.heap.size + 1]? = some (.cells #[.int .i64 0, .int .i64 0, .int .i64 0, .int .i64 0] 44 (0, 0)) from heap_new (by simp)) (by omega)
    obtain ⟨⟨d0, d1, d2, d3⟩, ⟨g0, g1, g2, g3⟩, hz⟩ := box4 hg1
    simp only [WantS.val]
    go_wp2
    exact bodyPost_ret (results_cell_row rfl _ _ _ _ _ _ _ rfl (heap_set (heap_set (heap_set (heap_set hg1)))) Try.underlying44 rfl infoWant) rfl (close_step (g := w.heap.size + 1) (M := []) (by repeat (first | exact grown_refl _ _ | refine grown_alloc ?_ _ | refine grown_drewN ?_ _ | refine grown_drew ?_)) hlt (by omega) (by simp) (fun x hx => nomatch hx) ⟨rfl, post⟩ rfl)
  

set_option maxRecDepth 100000 in
set_option maxHeartbeats 3000000 in
theorem addQ_step (w : World) (p : Nat) (base most : Int) (nx : Value) (B : List Ent) (k v f : Int) (d : WayD) (bx bl bf : Nat) (h : Lies w p base most nx) (hs : Store w p B) (hb : inB base most) (hbx : XB B p bx) (hbl : LaysB B p k d bl) (hbf : VB B f bf) :
    Calls Try.prog 61 #[.int .i64 v, .pointer (some ⟨bx, 0, none⟩), .pointer (some ⟨bl, 0, none⟩), .pointer (some ⟨bf, 0, none⟩)] w (StepPost p base most B (putS (base + 1) v, .put (.lays1 k d f)) w) := by
  obtain ⟨⟨c0, c1, c2⟩, f2, hlt⟩ := lies3 h
  have HP := Lib.hid h
  have HB := Lib.hid hb
  obtain ⟨hb0, hb1, hm0, hm1⟩ := hb
  obtain ⟨bx0, bxl, bxn⟩ := box_in hs hbx
  have Hbx := Lib.hid hbx
  obtain ⟨bf0, bfl, bfn⟩ := box_in hs hbf
  have Hbf := Lib.hid hbf
  have HS := Lib.hid hs
  clear h hs hbx hbf
  have Hbl := Lib.hid hbl
  clear hbl
  go_enter Try.func61, Try.ntmps61
  go_wp2_with fail
  refine (write_step _ p base most nx (B) (.lays1 k d f) (1) (v) 62 #[] (#[.pointer (some ⟨bl, 0, none⟩), .pointer (some ⟨bf, 0, none⟩)]) (by first | exact HP.out | exact heap_old HP.out | exact heap_old (heap_old HP.out) | exact heap_old (heap_old (heap_old HP.out)) | exact heap_old (heap_old (heap_old (heap_old HP.out))) | exact heap_old (heap_old (heap_old (heap_old (heap_old HP.out)))) | exact heap_old (heap_old (heap_old (heap_old (heap_old (heap_old HP.out)))))) HB.out (by omega) ⟨_, _, Hbl.out, Hbf.out, rfl⟩).mono ?_
  rintro e w1 ⟨rfl, post⟩
  have hg1 := box_grown post.1 (show (World.heap _)[w.heap.size]? = some (.cells #[.int .i64 0, .int .i64 0, .int .i64 0, .int .i64 0] 44 (0, 0)) from heap_new (by simp)) (by omega)
  obtain ⟨⟨d0, d1, d2, d3⟩, ⟨g0, g1, g2, g3⟩, hz⟩ := box4 hg1
  simp only [WantS.val]
  go_wp2
  exact bodyPost_ret (results_cell_row rfl _ _ _ _ _ _ _ rfl (heap_set (heap_set (heap_set (heap_set hg1)))) Try.underlying44 rfl infoWant) rfl (close_step (g := w.heap.size) (M := []) (by repeat (first | exact grown_refl _ _ | refine grown_alloc ?_ _ | refine grown_drewN ?_ _ | refine grown_drew ?_)) hlt (by omega) (by simp) (fun x hx => nomatch hx) ⟨rfl, post⟩ rfl)

set_option maxRecDepth 100000 in
set_option maxHeartbeats 3000000 in
theorem addU_step (w : World) (p : Nat) (base most : Int) (nx : Value) (B : List Ent) (k v : Int) (d : WayD) (bx bl : Nat) (h : Lies w p base most nx) (hs : Store w p B) (hb : inB base most) (hbx : XB B p bx) (hbl : LaysB B p k d bl) :
    Calls Try.prog 63 #[.int .i64 v, .pointer (some ⟨bx, 0, none⟩), .pointer (some ⟨bl, 0, none⟩)] w (StepPost p base most B (goK base most (.addU k d) v) w) := by
  obtain ⟨⟨c0, c1, c2⟩, f2, hlt⟩ := lies3 h
  have HP := Lib.hid h
  have HB := Lib.hid hb
  obtain ⟨hb0, hb1, hm0, hm1⟩ := hb
  obtain ⟨bx0, bxl, bxn⟩ := box_in hs hbx
  have Hbx := Lib.hid hbx
  have HS := Lib.hid hs
  clear h hs hbx
  have Hbl := Lib.hid hbl
  clear hbl
  rcases (show v < 0 ∨ (0 ≤ v ∧ most ≤ v) ∨ (0 ≤ v ∧ v < most) from by omega) with hv | ⟨hv, hv2⟩ | ⟨hv, hv2⟩
  · rw [show goK base most (.addU k d) v = endK 0 2 from if_pos (.inl hv)]
    go_enter Try.func63, Try.ntmps63
    go_wp2_with fail
    go_quiet (fail)
    go_wp2_with fail
    refine (done_step _ p base most nx (B) (0) (2) (by first | exact HP.out | exact heap_old HP.out | exact heap_old (heap_old HP.out) | exact heap_old (heap_old (heap_old HP.out)) | exact heap_old (heap_old (heap_old (heap_old HP.out))) | exact heap_old (heap_old (heap_old (heap_old (heap_old HP.out)))) | exact heap_old (heap_old (heap_old (heap_old (heap_old (heap_old HP.out))))))).mono ?_
    rintro e w1 ⟨rfl, post⟩
    have hg1 := box_grown post.1 (show (World.heap _)[w.heap.size + 1]? = some (.cells #[.int .i64 0, .int .i64 0, .int .i64 0, .int .i64 0] 44 (0, 0)) from heap_new (by simp)) (by omega)
    obtain ⟨⟨d0, d1, d2, d3⟩, ⟨g0, g1, g2, g3⟩, hz⟩ := box4 hg1
    simp only [WantS.val, endK]
    go_wp2
    exact bodyPost_ret (results_cell_row rfl _ _ _ _ _ _ _ rfl (heap_set (heap_set (heap_set (heap_set hg1)))) Try.underlying44 rfl infoWant) rfl (close_step (g := w.heap.size + 1) (M := []) (by repeat (first | exact grown_refl _ _ | refine grown_alloc ?_ _ | refine grown_drewN ?_ _ | refine grown_drew ?_)) hlt (by omega) (by simp) (fun x hx => nomatch hx) ⟨rfl, post⟩ rfl)
  · rw [show goK base most (.addU k d) v = endK 0 2 from if_pos (.inr hv2)]
    go_enter Try.func63, Try.ntmps63
    go_wp2_with fail
    go_quiet (fail)
    go_wp2_with fail
    refine (done_step _ p base most nx (B) (0) (2) (by first | exact HP.out | exact heap_old HP.out | exact heap_old (heap_old HP.out) | exact heap_old (heap_old (heap_old HP.out)) | exact heap_old (heap_old (heap_old (heap_old HP.out))) | exact heap_old (heap_old (heap_old (heap_old (heap_old HP.out)))) | exact heap_old (heap_old (heap_old (heap_old (heap_old (heap_old HP.out))))))).mono ?_
    rintro e w1 ⟨rfl, post⟩
    have hg1 := box_grown post.1 (show (World.heap _)[w.heap.size + 1]? = some (.cells #[.int .i64 0, .int .i64 0, .int .i64 0, .int .i64 0] 44 (0, 0)) from heap_new (by simp)) (by omega)
    obtain ⟨⟨d0, d1, d2, d3⟩, ⟨g0, g1, g2, g3⟩, hz⟩ := box4 hg1
    simp only [WantS.val, endK]
    go_wp2
    exact bodyPost_ret (results_cell_row rfl _ _ _ _ _ _ _ rfl (heap_set (heap_set (heap_set (heap_set hg1)))) Try.underlying44 rfl infoWant) rfl (close_step (g := w.heap.size + 1) (M := []) (by repeat (first | exact grown_refl _ _ | refine grown_alloc ?_ _ | refine grown_drewN ?_ _ | refine grown_drew ?_)) hlt (by omega) (by simp) (fun x hx => nomatch hx) ⟨rfl, post⟩ rfl)
  · rw [show goK base most (.addU k d) v = (putS (base + 2) (v + 1), .put (.lays2 k d v)) from if_neg (by omega)]
    go_enter Try.func63, Try.ntmps63
    go_wp2_with fail
    go_quiet (fail)
    go_wp2_with fail
    refine (write_step _ p base most nx ([⟨w.heap.size, #[.int .i64 v], 2⟩] ++ B) (.lays2 k d v) (2) (v + 1) 64 #[] (#[.pointer (some ⟨bl, 0, none⟩), .pointer (some ⟨w.heap.size, 0, none⟩)]) (by first | exact HP.out | exact heap_old HP.out | exact heap_old (heap_old HP.out) | exact heap_old (heap_old (heap_old HP.out)) | exact heap_old (heap_old (heap_old (heap_old HP.out))) | exact heap_old (heap_old (heap_old (heap_old (heap_old HP.out)))) | exact heap_old (heap_old (heap_old (heap_old (heap_old (heap_old HP.out)))))) HB.out (by omega) ⟨_, _, Hbl.out.mono (fun e he => List.mem_append_right _ he), (List.mem_append_left _ List.mem_cons_self), rfl⟩).mono ?_
    rintro e w1 ⟨rfl, post⟩
    have hg1 := box_grown post.1 (show (World.heap _)[w.heap.size + 1]? = some (.cells #[.int .i64 0, .int .i64 0, .int .i64 0, .int .i64 0] 44 (0, 0)) from heap_new (by simp)) (by omega)
    obtain ⟨⟨d0, d1, d2, d3⟩, ⟨g0, g1, g2, g3⟩, hz⟩ := box4 hg1
    simp only [WantS.val]
    go_wp2
    exact bodyPost_ret (results_cell_row rfl _ _ _ _ _ _ _ rfl (heap_set (heap_set (heap_set (heap_set hg1)))) Try.underlying44 rfl infoWant) rfl (close_step (g := w.heap.size + 1) (M := [⟨w.heap.size, #[.int .i64 v], 2⟩]) (by repeat (first | exact grown_refl _ _ | refine grown_alloc ?_ _ | refine grown_drewN ?_ _ | refine grown_drew ?_)) hlt (by omega) (by simp) (by intro x hx; simp only [List.mem_cons, List.not_mem_nil, or_false] at hx; rcases hx with rfl <;> first | exact ⟨by simp, by simp, heap_new (by simp)⟩ | exact ⟨by simp, by simp, heap_old (heap_new (by simp))⟩) ⟨rfl, post⟩ rfl)
  

set_option maxRecDepth 100000 in
set_option maxHeartbeats 3000000 in
theorem lays1_step (w : World) (p : Nat) (base most : Int) (nx : Value) (B : List Ent) (k f : Int) (d : WayD) (s3 : Nat) (bl s1 s2 bf : Nat) (h : Lies w p base most nx) (hs : Store w p B) (hb : inB base most) (hbl : ⟨bl, #[.func (.func 55) #[] #[.pointer (some ⟨s1, 0, none⟩), .pointer (some ⟨s2, 0, none⟩), .pointer (some ⟨s3, 0, none⟩)]], 45⟩ ∈ B) (hs1 : XB B p s1) (hs2 : VB B k s2) (hbf : VB B f bf) (hs3 : WB B d s3) (hl : leadsP most f) :
    Calls Try.prog 62 #[.pointer (some ⟨bl, 0, none⟩), .pointer (some ⟨bf, 0, none⟩)] w (StepPost p base most B (laysK base k d f) w) := by
  obtain ⟨⟨c0, c1, c2⟩, f2, hlt⟩ := lies3 h
  have HP := Lib.hid h
  have HB := Lib.hid hb
  obtain ⟨hb0, hb1, hm0, hm1⟩ := hb
  obtain ⟨bl0, bll, bln⟩ := box_in hs hbl
  have Hbl := Lib.hid hbl
  obtain ⟨s10, s1l, s1n⟩ := box_in hs hs1
  have Hs1 := Lib.hid hs1
  obtain ⟨s20, s2l, s2n⟩ := box_in hs hs2
  have Hs2 := Lib.hid hs2
  obtain ⟨bf0, bfl, bfn⟩ := box_in hs hbf
  have Hbf := Lib.hid hbf
  have HS := Lib.hid hs
  clear h hs hbl hs1 hs2 hbf
  have Hs3 := Lib.hid hs3
  clear hs3
  go_enter Try.func62, Try.ntmps62
  go_wp2_with fail
  refine (lays_step _ p base most nx B k f d s1 s2 (by first | exact HP.out | exact heap_old HP.out | exact heap_old (heap_old HP.out) | exact heap_old (heap_old (heap_old HP.out)) | exact heap_old (heap_old (heap_old (heap_old HP.out))) | exact heap_old (heap_old (heap_old (heap_old (heap_old HP.out)))) | exact heap_old (heap_old (heap_old (heap_old (heap_old (heap_old HP.out)))))) (HS.out.keep (by repeat (first | exact grown_refl _ _ | refine grown_alloc ?_ _ | refine grown_drewN ?_ _ | refine grown_drew ?_))) HB.out Hs1.out Hs2.out _ Hs3.out hl).mono ?_
  rintro e w1 ⟨rfl, post⟩
  have hg1 := box_grown post.1 (show (World.heap _)[w.heap.size]? = some (.cells #[.int .i64 0, .int .i64 0, .int .i64 0, .int .i64 0] 44 (0, 0)) from heap_new (by simp)) (by omega)
  obtain ⟨⟨d0, d1, d2, d3⟩, ⟨g0, g1, g2, g3⟩, hz⟩ := box4 hg1
  have POST := Lib.hid post
  clear post
  generalize laysK base k d f = r at *
  obtain ⟨⟨r0, r1, r2, r3⟩, kk⟩ := r
  simp only [WantS.val]
  go_wp2
  exact bodyPost_ret (results_cell_row rfl _ _ _ _ _ _ _ rfl (heap_set (heap_set (heap_set (heap_set hg1)))) Try.underlying44 rfl infoWant) rfl (close_step (g := w.heap.size) (M := []) (by repeat (first | exact grown_refl _ _ | refine grown_alloc ?_ _ | refine grown_drewN ?_ _ | refine grown_drew ?_)) hlt (by omega) (by simp) (fun x hx => nomatch hx) ⟨rfl, POST.out⟩ rfl)

set_option maxRecDepth 100000 in
set_option maxHeartbeats 3000000 in
theorem lays2_step (w : World) (p : Nat) (base most : Int) (nx : Value) (B : List Ent) (k f : Int) (d : WayD) (s3 : Nat) (bl s1 s2 bf : Nat) (h : Lies w p base most nx) (hs : Store w p B) (hb : inB base most) (hbl : ⟨bl, #[.func (.func 55) #[] #[.pointer (some ⟨s1, 0, none⟩), .pointer (some ⟨s2, 0, none⟩), .pointer (some ⟨s3, 0, none⟩)]], 45⟩ ∈ B) (hs1 : XB B p s1) (hs2 : VB B k s2) (hbf : VB B f bf) (hs3 : WB B d s3) (hf : 0 ≤ f ∧ f < most) :
    Calls Try.prog 64 #[.pointer (some ⟨bl, 0, none⟩), .pointer (some ⟨bf, 0, none⟩)] w (StepPost p base most B (laysK base k d (f + 1)) w) := by
  obtain ⟨⟨c0, c1, c2⟩, f2, hlt⟩ := lies3 h
  have HP := Lib.hid h
  have HB := Lib.hid hb
  obtain ⟨hb0, hb1, hm0, hm1⟩ := hb
  obtain ⟨bl0, bll, bln⟩ := box_in hs hbl
  have Hbl := Lib.hid hbl
  obtain ⟨s10, s1l, s1n⟩ := box_in hs hs1
  have Hs1 := Lib.hid hs1
  obtain ⟨s20, s2l, s2n⟩ := box_in hs hs2
  have Hs2 := Lib.hid hs2
  obtain ⟨bf0, bfl, bfn⟩ := box_in hs hbf
  have Hbf := Lib.hid hbf
  have HS := Lib.hid hs
  clear h hs hbl hs1 hs2 hbf
  obtain ⟨hf0, hf1⟩ := hf
  have Hs3 := Lib.hid hs3
  clear hs3
  have hl : leadsP most (f + 1) := by unfold leadsP; omega
  go_enter Try.func64, Try.ntmps64
  go_wp2_with fail
  refine (lays_step _ p base most nx B k (f + 1) d s1 s2 (by first | exact HP.out | exact heap_old HP.out | exact heap_old (heap_old HP.out) | exact heap_old (heap_old (heap_old HP.out)) | exact heap_old (heap_old (heap_old (heap_old HP.out))) | exact heap_old (heap_old (heap_old (heap_old (heap_old HP.out)))) | exact heap_old (heap_old (heap_old (heap_old (heap_old (heap_old HP.out)))))) (HS.out.keep (by repeat (first | exact grown_refl _ _ | refine grown_alloc ?_ _ | refine grown_drewN ?_ _ | refine grown_drew ?_))) HB.out Hs1.out Hs2.out _ Hs3.out hl).mono ?_
  rintro e w1 ⟨rfl, post⟩
  have hg1 := box_grown post.1 (show (World.heap _)[w.heap.size]? = some (.cells #[.int .i64 0, .int .i64 0, .int .i64 0, .int .i64 0] 44 (0, 0)) from heap_new (by simp)) (by omega)
  obtain ⟨⟨d0, d1, d2, d3⟩, ⟨g0, g1, g2, g3⟩, hz⟩ := box4 hg1
  have POST := Lib.hid post
  clear post
  generalize laysK base k d (f + 1) = r at *
  obtain ⟨⟨r0, r1, r2, r3⟩, kk⟩ := r
  simp only [WantS.val]
  go_wp2
  exact bodyPost_ret (results_cell_row rfl _ _ _ _ _ _ _ rfl (heap_set (heap_set (heap_set (heap_set hg1)))) Try.underlying44 rfl infoWant) rfl (close_step (g := w.heap.size) (M := []) (by repeat (first | exact grown_refl _ _ | refine grown_alloc ?_ _ | refine grown_drewN ?_ _ | refine grown_drew ?_)) hlt (by omega) (by simp) (fun x hx => nomatch hx) ⟨rfl, POST.out⟩ rfl)

set_option maxRecDepth 100000 in
set_option maxHeartbeats 3000000 in
theorem tkey_step (w : World) (p : Nat) (base most : Int) (nx : Value) (B : List Ent) (k node : Int) (d : WayD) (bx bn bw : Nat) (h : Lies w p base most nx) (hs : Store w p B) (hb : inB base most) (hbx : XB B p bx) (hbn : VB B node bn) (hbw : WB B d bw) (hl : leadsP most node) :
    Calls Try.prog 57 #[.pointer (some ⟨bx, 0, none⟩), .pointer (some ⟨bn, 0, none⟩), .pointer (some ⟨bw, 0, none⟩)] w (StepPost p base most B (putS (base + linkI node) d.p, .put (.link k d node)) w) := by
  obtain ⟨⟨c0, c1, c2⟩, f2, hlt⟩ := lies3 h
  have HP := Lib.hid h
  have HB := Lib.hid hb
  obtain ⟨hb0, hb1, hm0, hm1⟩ := hb
  obtain ⟨bx0, bxl, bxn⟩ := box_in hs hbx
  have Hbx := Lib.hid hbx
  obtain ⟨bn0, bnl, bnn⟩ := box_in hs hbn
  have Hbn := Lib.hid hbn
  obtain ⟨⟨bw0, bw1, bw2, bw3, bw4⟩, bwl, bwn⟩ := way_in hs hbw
  have Hbw := Lib.hid hbw
  have HS := Lib.hid hs
  clear h hs hbx hbn hbw
  go_enter Try.func57, Try.ntmps57
  go_wp2_with fail
  refine wp_region_still_tail 6 (by kernel_rfl) (by kernel_rfl) ?_
  change wpStill _ _ (World.drew _) (fun a' => wpList _ _ _ _ a' (World.drew _)) _ _
  simp only [List.take_succ_cons, List.take_zero, List.drop_succ_cons, List.drop_zero]
  repeat still_step
  still_call ((link_calls _ (node) (lead0 hl) (lead1 hl hm1)).mono fun _ _ h => ⟨h.1, h.2.symm⟩)
  repeat still_step
  refine wpStill_nil ?_
  go_wp2_with fail
  refine (write_step _ p base most nx (B) (.link k d node) (linkI node) (d.p) 58 #[] (#[.pointer (some ⟨bx, 0, none⟩), .pointer (some ⟨bw, 0, none⟩), .pointer (some ⟨bn, 0, none⟩)]) (by first | exact HP.out | exact heap_old HP.out | exact heap_old (heap_old HP.out) | exact heap_old (heap_old (heap_old HP.out)) | exact heap_old (heap_old (heap_old (heap_old HP.out))) | exact heap_old (heap_old (heap_old (heap_old (heap_old HP.out)))) | exact heap_old (heap_old (heap_old (heap_old (heap_old (heap_old HP.out)))))) HB.out (linkR hl hm1) ⟨_, _, _, Hbx.out, Hbw.out, Hbn.out, rfl⟩).mono ?_
  rintro e w1 ⟨rfl, post⟩
  have hg1 := box_grown post.1 (show (World.heap _)[w.heap.size]? = some (.cells #[.int .i64 0, .int .i64 0, .int .i64 0, .int .i64 0] 44 (0, 0)) from heap_new (by simp)) (by omega)
  obtain ⟨⟨d0, d1, d2, d3⟩, ⟨g0, g1, g2, g3⟩, hz⟩ := box4 hg1
  simp only [WantS.val]
  go_wp2
  exact bodyPost_ret (results_cell_row rfl _ _ _ _ _ _ _ rfl (heap_set (heap_set (heap_set (heap_set hg1)))) Try.underlying44 rfl infoWant) rfl (close_step (g := w.heap.size) (M := []) (by repeat (first | exact grown_refl _ _ | refine grown_alloc ?_ _ | refine grown_drewN ?_ _ | refine grown_drew ?_)) hlt (by omega) (by simp) (fun x hx => nomatch hx) ⟨rfl, post⟩ rfl)

set_option maxRecDepth 100000 in
set_option maxHeartbeats 3000000 in
theorem tlink_step (w : World) (p : Nat) (base most : Int) (nx : Value) (B : List Ent) (node : Int) (d : WayD) (bx bw bn : Nat) (h : Lies w p base most nx) (hs : Store w p B) (hb : inB base most) (hbx : XB B p bx) (hbw : WB B d bw) (hbn : VB B node bn) (hc : cellOk d.cell) :
    Calls Try.prog 58 #[.pointer (some ⟨bx, 0, none⟩), .pointer (some ⟨bw, 0, none⟩), .pointer (some ⟨bn, 0, none⟩)] w (StepPost p base most B (putS (base + d.cell) node, .put .fin) w) := by
  obtain ⟨⟨c0, c1, c2⟩, f2, hlt⟩ := lies3 h
  have HP := Lib.hid h
  have HB := Lib.hid hb
  obtain ⟨hb0, hb1, hm0, hm1⟩ := hb
  obtain ⟨bx0, bxl, bxn⟩ := box_in hs hbx
  have Hbx := Lib.hid hbx
  obtain ⟨⟨bw0, bw1, bw2, bw3, bw4⟩, bwl, bwn⟩ := way_in hs hbw
  have Hbw := Lib.hid hbw
  obtain ⟨bn0, bnl, bnn⟩ := box_in hs hbn
  have Hbn := Lib.hid hbn
  have HS := Lib.hid hs
  clear h hs hbx hbw hbn
  go_enter Try.func58, Try.ntmps58
  go_wp2_with fail
  refine (write_step _ p base most nx (B) (.fin) (d.cell) (node) 59 #[] (#[.pointer (some ⟨bx, 0, none⟩)]) (by first | exact HP.out | exact heap_old HP.out | exact heap_old (heap_old HP.out) | exact heap_old (heap_old (heap_old HP.out)) | exact heap_old (heap_old (heap_old (heap_old HP.out))) | exact heap_old (heap_old (heap_old (heap_old (heap_old HP.out)))) | exact heap_old (heap_old (heap_old (heap_old (heap_old (heap_old HP.out)))))) HB.out (cellR hc) ⟨_, Hbx.out, rfl⟩).mono ?_
  rintro e w1 ⟨rfl, post⟩
  have hg1 := box_grown post.1 (show (World.heap _)[w.heap.size]? = some (.cells #[.int .i64 0, .int .i64 0, .int .i64 0, .int .i64 0] 44 (0, 0)) from heap_new (by simp)) (by omega)
  obtain ⟨⟨d0, d1, d2, d3⟩, ⟨g0, g1, g2, g3⟩, hz⟩ := box4 hg1
  simp only [WantS.val]
  go_wp2
  exact bodyPost_ret (results_cell_row rfl _ _ _ _ _ _ _ rfl (heap_set (heap_set (heap_set (heap_set hg1)))) Try.underlying44 rfl infoWant) rfl (close_step (g := w.heap.size) (M := []) (by repeat (first | exact grown_refl _ _ | refine grown_alloc ?_ _ | refine grown_drewN ?_ _ | refine grown_drew ?_)) hlt (by omega) (by simp) (fun x hx => nomatch hx) ⟨rfl, post⟩ rfl)

set_option maxRecDepth 100000 in
set_option maxHeartbeats 3000000 in
theorem fin_step (w : World) (p : Nat) (base most : Int) (nx : Value) (B : List Ent)  (bx : Nat) (h : Lies w p base most nx) (hs : Store w p B) (hb : inB base most) (hbx : XB B p bx) :
    Calls Try.prog 59 #[.pointer (some ⟨bx, 0, none⟩)] w (StepPost p base most B (endK 0 0) w) := by
  obtain ⟨⟨c0, c1, c2⟩, f2, hlt⟩ := lies3 h
  have HP := Lib.hid h
  have HB := Lib.hid hb
  obtain ⟨hb0, hb1, hm0, hm1⟩ := hb
  obtain ⟨bx0, bxl, bxn⟩ := box_in hs hbx
  have Hbx := Lib.hid hbx
  have HS := Lib.hid hs
  clear h hs hbx
  go_enter Try.func59, Try.ntmps59
  go_wp2_with fail
  refine (done_step _ p base most nx (B) (0) (0) (by first | exact HP.out | exact heap_old HP.out | exact heap_old (heap_old HP.out) | exact heap_old (heap_old (heap_old HP.out)) | exact heap_old (heap_old (heap_old (heap_old HP.out))) | exact heap_old (heap_old (heap_old (heap_old (heap_old HP.out)))) | exact heap_old (heap_old (heap_old (heap_old (heap_old (heap_old HP.out))))))).mono ?_
  rintro e w1 ⟨rfl, post⟩
  have hg1 := box_grown post.1 (show (World.heap _)[w.heap.size]? = some (.cells #[.int .i64 0, .int .i64 0, .int .i64 0, .int .i64 0] 44 (0, 0)) from heap_new (by simp)) (by omega)
  obtain ⟨⟨d0, d1, d2, d3⟩, ⟨g0, g1, g2, g3⟩, hz⟩ := box4 hg1
  simp only [WantS.val, endK]
  go_wp2
  exact bodyPost_ret (results_cell_row rfl _ _ _ _ _ _ _ rfl (heap_set (heap_set (heap_set (heap_set hg1)))) Try.underlying44 rfl infoWant) rfl (close_step (g := w.heap.size) (M := []) (by repeat (first | exact grown_refl _ _ | refine grown_alloc ?_ _ | refine grown_drewN ?_ _ | refine grown_drew ?_)) hlt (by omega) (by simp) (fun x hx => nomatch hx) ⟨rfl, post⟩ rfl)

set_option maxRecDepth 100000 in
set_option maxHeartbeats 3000000 in
theorem delQ_step (w : World) (p : Nat) (base most : Int) (nx : Value) (B : List Ent) (v : Int) (d : WayD) (bx bw : Nat) (h : Lies w p base most nx) (hs : Store w p B) (hb : inB base most) (hbx : XB B p bx) (hbw : WB B d bw) (hc : cellOk d.cell) :
    Calls Try.prog 65 #[.int .i64 v, .pointer (some ⟨bx, 0, none⟩), .pointer (some ⟨bw, 0, none⟩)] w (StepPost p base most B (putS (base + d.cell) v, .put (.delW d)) w) := by
  obtain ⟨⟨c0, c1, c2⟩, f2, hlt⟩ := lies3 h
  have HP := Lib.hid h
  have HB := Lib.hid hb
  obtain ⟨hb0, hb1, hm0, hm1⟩ := hb
  obtain ⟨bx0, bxl, bxn⟩ := box_in hs hbx
  have Hbx := Lib.hid hbx
  obtain ⟨⟨bw0, bw1, bw2, bw3, bw4⟩, bwl, bwn⟩ := way_in hs hbw
  have Hbw := Lib.hid hbw
  have HS := Lib.hid hs
  clear h hs hbx hbw
  go_enter Try.func65, Try.ntmps65
  go_wp2_with fail
  refine (write_step _ p base most nx (B) (.delW d) (d.cell) (v) 66 #[] (#[.pointer (some ⟨bx, 0, none⟩), .pointer (some ⟨bw, 0, none⟩)]) (by first | exact HP.out | exact heap_old HP.out | exact heap_old (heap_old HP.out) | exact heap_old (heap_old (heap_old HP.out)) | exact heap_old (heap_old (heap_old (heap_old HP.out))) | exact heap_old (heap_old (heap_old (heap_old (heap_old HP.out)))) | exact heap_old (heap_old (heap_old (heap_old (heap_old (heap_old HP.out)))))) HB.out (cellR hc) ⟨_, _, Hbx.out, Hbw.out, rfl⟩).mono ?_
  rintro e w1 ⟨rfl, post⟩
  have hg1 := box_grown post.1 (show (World.heap _)[w.heap.size]? = some (.cells #[.int .i64 0, .int .i64 0, .int .i64 0, .int .i64 0] 44 (0, 0)) from heap_new (by simp)) (by omega)
  obtain ⟨⟨d0, d1, d2, d3⟩, ⟨g0, g1, g2, g3⟩, hz⟩ := box4 hg1
  simp only [WantS.val]
  go_wp2
  exact bodyPost_ret (results_cell_row rfl _ _ _ _ _ _ _ rfl (heap_set (heap_set (heap_set (heap_set hg1)))) Try.underlying44 rfl infoWant) rfl (close_step (g := w.heap.size) (M := []) (by repeat (first | exact grown_refl _ _ | refine grown_alloc ?_ _ | refine grown_drewN ?_ _ | refine grown_drew ?_)) hlt (by omega) (by simp) (fun x hx => nomatch hx) ⟨rfl, post⟩ rfl)

set_option maxRecDepth 100000 in
set_option maxHeartbeats 3000000 in
theorem delW_step (w : World) (p : Nat) (base most : Int) (nx : Value) (B : List Ent) (d : WayD) (bx bw : Nat) (h : Lies w p base most nx) (hs : Store w p B) (hb : inB base most) (hbx : XB B p bx) (hbw : WB B d bw) :
    Calls Try.prog 66 #[.pointer (some ⟨bx, 0, none⟩), .pointer (some ⟨bw, 0, none⟩)] w (StepPost p base most B (readS (base + 1), .delF d) w) := by
  obtain ⟨⟨c0, c1, c2⟩, f2, hlt⟩ := lies3 h
  have HP := Lib.hid h
  have HB := Lib.hid hb
  obtain ⟨hb0, hb1, hm0, hm1⟩ := hb
  obtain ⟨bx0, bxl, bxn⟩ := box_in hs hbx
  have Hbx := Lib.hid hbx
  obtain ⟨⟨bw0, bw1, bw2, bw3, bw4⟩, bwl, bwn⟩ := way_in hs hbw
  have Hbw := Lib.hid hbw
  have HS := Lib.hid hs
  clear h hs hbx hbw
  go_enter Try.func66, Try.ntmps66
  go_wp2_with fail
  refine (read_step _ p base most nx (B) (.delF d) (1) 67 (#[]) (#[.pointer (some ⟨bx, 0, none⟩), .pointer (some ⟨bw, 0, none⟩)]) (by first | exact HP.out | exact heap_old HP.out | exact heap_old (heap_old HP.out) | exact heap_old (heap_old (heap_old HP.out)) | exact heap_old (heap_old (heap_old (heap_old HP.out))) | exact heap_old (heap_old (heap_old (heap_old (heap_old HP.out)))) | exact heap_old (heap_old (heap_old (heap_old (heap_old (heap_old HP.out)))))) HB.out (by omega) ⟨_, _, Hbx.out, Hbw.out, rfl⟩).mono ?_
  rintro e w1 ⟨rfl, post⟩
  have hg1 := box_grown post.1 (show (World.heap _)[w.heap.size]? = some (.cells #[.int .i64 0, .int .i64 0, .int .i64 0, .int .i64 0] 44 (0, 0)) from heap_new (by simp)) (by omega)
  obtain ⟨⟨d0, d1, d2, d3⟩, ⟨g0, g1, g2, g3⟩, hz⟩ := box4 hg1
  simp only [WantS.val]
  go_wp2
  exact bodyPost_ret (results_cell_row rfl _ _ _ _ _ _ _ rfl (heap_set (heap_set (heap_set (heap_set hg1)))) Try.underlying44 rfl infoWant) rfl (close_step (g := w.heap.size) (M := []) (by repeat (first | exact grown_refl _ _ | refine grown_alloc ?_ _ | refine grown_drewN ?_ _ | refine grown_drew ?_)) hlt (by omega) (by simp) (fun x hx => nomatch hx) ⟨rfl, post⟩ rfl)

set_option maxRecDepth 100000 in
set_option maxHeartbeats 3000000 in
theorem delF_step (w : World) (p : Nat) (base most : Int) (nx : Value) (B : List Ent) (v : Int) (d : WayD) (bx bw : Nat) (h : Lies w p base most nx) (hs : Store w p B) (hb : inB base most) (hbx : XB B p bx) (hbw : WB B d bw) (hl : leadsP most d.p) :
    Calls Try.prog 67 #[.int .i64 v, .pointer (some ⟨bx, 0, none⟩), .pointer (some ⟨bw, 0, none⟩)] w (StepPost p base most B (putS (base + linkI d.p) v, .put (.delL d)) w) := by
  obtain ⟨⟨c0, c1, c2⟩, f2, hlt⟩ := lies3 h
  have HP := Lib.hid h
  have HB := Lib.hid hb
  obtain ⟨hb0, hb1, hm0, hm1⟩ := hb
  obtain ⟨bx0, bxl, bxn⟩ := box_in hs hbx
  have Hbx := Lib.hid hbx
  obtain ⟨⟨bw0, bw1, bw2, bw3, bw4⟩, bwl, bwn⟩ := way_in hs hbw
  have Hbw := Lib.hid hbw
  have HS := Lib.hid hs
  clear h hs hbx hbw
  go_enter Try.func67, Try.ntmps67
  go_wp2_with fail
  refine wp_region_still_tail 6 (by kernel_rfl) (by kernel_rfl) ?_
  change wpStill _ _ (World.drew _) (fun a' => wpList _ _ _ _ a' (World.drew _)) _ _
  simp only [List.take_succ_cons, List.take_zero, List.drop_succ_cons, List.drop_zero]
  repeat still_step
  still_call ((link_calls _ (d.p) (lead0 hl) (lead1 hl hm1)).mono fun _ _ h => ⟨h.1, h.2.symm⟩)
  repeat still_step
  refine wpStill_nil ?_
  go_wp2_with fail
  refine (write_step _ p base most nx (B) (.delL d) (linkI d.p) (v) 68 #[] (#[.pointer (some ⟨bx, 0, none⟩), .pointer (some ⟨bw, 0, none⟩)]) (by first | exact HP.out | exact heap_old HP.out | exact heap_old (heap_old HP.out) | exact heap_old (heap_old (heap_old HP.out)) | exact heap_old (heap_old (heap_old (heap_old HP.out))) | exact heap_old (heap_old (heap_old (heap_old (heap_old HP.out)))) | exact heap_old (heap_old (heap_old (heap_old (heap_old (heap_old HP.out)))))) HB.out (linkR hl hm1) ⟨_, _, Hbx.out, Hbw.out, rfl⟩).mono ?_
  rintro e w1 ⟨rfl, post⟩
  have hg1 := box_grown post.1 (show (World.heap _)[w.heap.size]? = some (.cells #[.int .i64 0, .int .i64 0, .int .i64 0, .int .i64 0] 44 (0, 0)) from heap_new (by simp)) (by omega)
  obtain ⟨⟨d0, d1, d2, d3⟩, ⟨g0, g1, g2, g3⟩, hz⟩ := box4 hg1
  simp only [WantS.val]
  go_wp2
  exact bodyPost_ret (results_cell_row rfl _ _ _ _ _ _ _ rfl (heap_set (heap_set (heap_set (heap_set hg1)))) Try.underlying44 rfl infoWant) rfl (close_step (g := w.heap.size) (M := []) (by repeat (first | exact grown_refl _ _ | refine grown_alloc ?_ _ | refine grown_drewN ?_ _ | refine grown_drew ?_)) hlt (by omega) (by simp) (fun x hx => nomatch hx) ⟨rfl, post⟩ rfl)

set_option maxRecDepth 100000 in
set_option maxHeartbeats 3000000 in
theorem delL_step (w : World) (p : Nat) (base most : Int) (nx : Value) (B : List Ent) (d : WayD) (bx bw : Nat) (h : Lies w p base most nx) (hs : Store w p B) (hb : inB base most) (hbx : XB B p bx) (hbw : WB B d bw) :
    Calls Try.prog 68 #[.pointer (some ⟨bx, 0, none⟩), .pointer (some ⟨bw, 0, none⟩)] w (StepPost p base most B (putS (base + 1) d.p, .put .delFin) w) := by
  obtain ⟨⟨c0, c1, c2⟩, f2, hlt⟩ := lies3 h
  have HP := Lib.hid h
  have HB := Lib.hid hb
  obtain ⟨hb0, hb1, hm0, hm1⟩ := hb
  obtain ⟨bx0, bxl, bxn⟩ := box_in hs hbx
  have Hbx := Lib.hid hbx
  obtain ⟨⟨bw0, bw1, bw2, bw3, bw4⟩, bwl, bwn⟩ := way_in hs hbw
  have Hbw := Lib.hid hbw
  have HS := Lib.hid hs
  clear h hs hbx hbw
  go_enter Try.func68, Try.ntmps68
  go_wp2_with fail
  refine (write_step _ p base most nx (B) (.delFin) (1) (d.p) 69 #[] (#[.pointer (some ⟨bx, 0, none⟩)]) (by first | exact HP.out | exact heap_old HP.out | exact heap_old (heap_old HP.out) | exact heap_old (heap_old (heap_old HP.out)) | exact heap_old (heap_old (heap_old (heap_old HP.out))) | exact heap_old (heap_old (heap_old (heap_old (heap_old HP.out)))) | exact heap_old (heap_old (heap_old (heap_old (heap_old (heap_old HP.out)))))) HB.out (by omega) ⟨_, Hbx.out, rfl⟩).mono ?_
  rintro e w1 ⟨rfl, post⟩
  have hg1 := box_grown post.1 (show (World.heap _)[w.heap.size]? = some (.cells #[.int .i64 0, .int .i64 0, .int .i64 0, .int .i64 0] 44 (0, 0)) from heap_new (by simp)) (by omega)
  obtain ⟨⟨d0, d1, d2, d3⟩, ⟨g0, g1, g2, g3⟩, hz⟩ := box4 hg1
  simp only [WantS.val]
  go_wp2
  exact bodyPost_ret (results_cell_row rfl _ _ _ _ _ _ _ rfl (heap_set (heap_set (heap_set (heap_set hg1)))) Try.underlying44 rfl infoWant) rfl (close_step (g := w.heap.size) (M := []) (by repeat (first | exact grown_refl _ _ | refine grown_alloc ?_ _ | refine grown_drewN ?_ _ | refine grown_drew ?_)) hlt (by omega) (by simp) (fun x hx => nomatch hx) ⟨rfl, post⟩ rfl)

set_option maxRecDepth 100000 in
set_option maxHeartbeats 3000000 in
theorem delFin_step (w : World) (p : Nat) (base most : Int) (nx : Value) (B : List Ent)  (bx : Nat) (h : Lies w p base most nx) (hs : Store w p B) (hb : inB base most) (hbx : XB B p bx) :
    Calls Try.prog 69 #[.pointer (some ⟨bx, 0, none⟩)] w (StepPost p base most B (endK 0 0) w) := by
  obtain ⟨⟨c0, c1, c2⟩, f2, hlt⟩ := lies3 h
  have HP := Lib.hid h
  have HB := Lib.hid hb
  obtain ⟨hb0, hb1, hm0, hm1⟩ := hb
  obtain ⟨bx0, bxl, bxn⟩ := box_in hs hbx
  have Hbx := Lib.hid hbx
  have HS := Lib.hid hs
  clear h hs hbx
  go_enter Try.func69, Try.ntmps69
  go_wp2_with fail
  refine (done_step _ p base most nx (B) (0) (0) (by first | exact HP.out | exact heap_old HP.out | exact heap_old (heap_old HP.out) | exact heap_old (heap_old (heap_old HP.out)) | exact heap_old (heap_old (heap_old (heap_old HP.out))) | exact heap_old (heap_old (heap_old (heap_old (heap_old HP.out)))) | exact heap_old (heap_old (heap_old (heap_old (heap_old (heap_old HP.out))))))).mono ?_
  rintro e w1 ⟨rfl, post⟩
  have hg1 := box_grown post.1 (show (World.heap _)[w.heap.size]? = some (.cells #[.int .i64 0, .int .i64 0, .int .i64 0, .int .i64 0] 44 (0, 0)) from heap_new (by simp)) (by omega)
  obtain ⟨⟨d0, d1, d2, d3⟩, ⟨g0, g1, g2, g3⟩, hz⟩ := box4 hg1
  simp only [WantS.val, endK]
  go_wp2
  exact bodyPost_ret (results_cell_row rfl _ _ _ _ _ _ _ rfl (heap_set (heap_set (heap_set (heap_set hg1)))) Try.underlying44 rfl infoWant) rfl (close_step (g := w.heap.size) (M := []) (by repeat (first | exact grown_refl _ _ | refine grown_alloc ?_ _ | refine grown_drewN ?_ _ | refine grown_drew ?_)) hlt (by omega) (by simp) (fun x hx => nomatch hx) ⟨rfl, post⟩ rfl)

end Go.Proofs.Ytihlbhlagpmbjaa
