/- The chain's machine: the contracts of its closures (printed by gen_mach18.py). -/
import Derived.Test.YtihlbhlagpmbjaaMachC18c
import Derived.Test.YtihlbhlagpmbjaaMachC18e
namespace Go.Proofs.Ytihlbhlagpmbjaa
open Go.RowKit

set_option maxRecDepth 100000 in
set_option maxHeartbeats 1000000 in
theorem next_least (w : World) (p : Nat) (base most : Int) (B : List Ent) (v : Int)  (bx : Nat) (h : Lies w p base most (.func (.func 33) #[] #[.pointer (some ⟨bx, 0, none⟩)])) (hs : Store w p B) (hb : inB base most) (hbx : XB B p bx) :
    Calls Try.prog 22 #[.pointer (some ⟨p, 0, none⟩), .int .i64 v] w (StepPost p base most B (goK base most (.least) v) w) := by
  have Hbx := Lib.hid hbx
  have HS := Lib.hid hs
  have HP := Lib.hid h
  have HB := Lib.hid hb
  obtain ⟨⟨c0, c1, c2⟩, f2, hlt⟩ := lies3 h
  clear h hs hb hbx
  have hgo : goK base most (.least) v = (readS (base + 0), K.keyOf) := rfl
  rw [hgo]
  clear hgo
  go_enter Try.func22, Try.ntmps22
  go_wp2_with fail
  refine (least_step _ p base most (.func (.func 33) #[] #[.pointer (some ⟨bx, 0, none⟩)]) B v bx (by first | exact HP.out | exact heap_old HP.out | exact heap_old (heap_old HP.out) | exact heap_old (heap_old (heap_old HP.out)) | exact heap_old (heap_old (heap_old (heap_old HP.out))) | exact heap_old (heap_old (heap_old (heap_old (heap_old HP.out)))) | exact heap_old (heap_old (heap_old (heap_old (heap_old (heap_old HP.out)))))) (HS.out.keep (by repeat (first | exact grown_refl _ _ | refine grown_alloc ?_ _ | refine grown_drewN ?_ _ | refine grown_drew ?_))) HB.out Hbx.out).mono ?_
  rintro e w1 ⟨rfl, post⟩
  have hg1 := box_grown post.1 (show (World.heap _)[w.heap.size]? = some (.cells #[.int .i64 0, .int .i64 0, .int .i64 0, .int .i64 0] 44 (0, 0)) from heap_new (by simp)) (by omega)
  obtain ⟨⟨d0, d1, d2, d3⟩, ⟨g0, g1, g2, g3⟩, hz⟩ := box4 hg1
  have POST := Lib.hid post
  clear post
  generalize (readS (base + 0), K.keyOf) = r at *
  obtain ⟨⟨r0, r1, r2, r3⟩, kk⟩ := r
  simp only [WantS.val]
  go_wp2
  exact bodyPost_ret (results_cell_row rfl _ _ _ _ _ _ _ rfl (heap_set (heap_set (heap_set (heap_set hg1)))) Try.underlying44 rfl infoWant) rfl (close_step (g := w.heap.size) (M := []) (by repeat (first | exact grown_refl _ _ | refine grown_alloc ?_ _ | refine grown_drewN ?_ _ | refine grown_drew ?_)) hlt (by omega) (by simp) (fun x hx => nomatch hx) ⟨rfl, POST.out⟩ rfl)

set_option maxRecDepth 100000 in
set_option maxHeartbeats 1000000 in
theorem next_len (w : World) (p : Nat) (base most : Int) (B : List Ent) (v : Int)  (bx : Nat) (h : Lies w p base most (.func (.func 36) #[] #[.pointer (some ⟨bx, 0, none⟩)])) (hs : Store w p B) (hb : inB base most) (hbx : XB B p bx) :
    Calls Try.prog 22 #[.pointer (some ⟨p, 0, none⟩), .int .i64 v] w (StepPost p base most B (goK base most (.len) v) w) := by
  have Hbx := Lib.hid hbx
  have HS := Lib.hid hs
  have HP := Lib.hid h
  have HB := Lib.hid hb
  obtain ⟨⟨c0, c1, c2⟩, f2, hlt⟩ := lies3 h
  clear h hs hb hbx
  have hgo : goK base most (.len) v = (readS (base + 0), K.counts 0) := rfl
  rw [hgo]
  clear hgo
  go_enter Try.func22, Try.ntmps22
  go_wp2_with fail
  refine (len_step _ p base most (.func (.func 36) #[] #[.pointer (some ⟨bx, 0, none⟩)]) B v bx (by first | exact HP.out | exact heap_old HP.out | exact heap_old (heap_old HP.out) | exact heap_old (heap_old (heap_old HP.out)) | exact heap_old (heap_old (heap_old (heap_old HP.out))) | exact heap_old (heap_old (heap_old (heap_old (heap_old HP.out)))) | exact heap_old (heap_old (heap_old (heap_old (heap_old (heap_old HP.out)))))) (HS.out.keep (by repeat (first | exact grown_refl _ _ | refine grown_alloc ?_ _ | refine grown_drewN ?_ _ | refine grown_drew ?_))) HB.out Hbx.out).mono ?_
  rintro e w1 ⟨rfl, post⟩
  have hg1 := box_grown post.1 (show (World.heap _)[w.heap.size]? = some (.cells #[.int .i64 0, .int .i64 0, .int .i64 0, .int .i64 0] 44 (0, 0)) from heap_new (by simp)) (by omega)
  obtain ⟨⟨d0, d1, d2, d3⟩, ⟨g0, g1, g2, g3⟩, hz⟩ := box4 hg1
  have POST := Lib.hid post
  clear post
  generalize (readS (base + 0), K.counts 0) = r at *
  obtain ⟨⟨r0, r1, r2, r3⟩, kk⟩ := r
  simp only [WantS.val]
  go_wp2
  exact bodyPost_ret (results_cell_row rfl _ _ _ _ _ _ _ rfl (heap_set (heap_set (heap_set (heap_set hg1)))) Try.underlying44 rfl infoWant) rfl (close_step (g := w.heap.size) (M := []) (by repeat (first | exact grown_refl _ _ | refine grown_alloc ?_ _ | refine grown_drewN ?_ _ | refine grown_drew ?_)) hlt (by omega) (by simp) (fun x hx => nomatch hx) ⟨rfl, POST.out⟩ rfl)

set_option maxRecDepth 100000 in
set_option maxHeartbeats 1000000 in
theorem next_start (w : World) (p : Nat) (base most : Int) (B : List Ent) (v : Int) (call k : Int) (bx bk bc : Nat) (h : Lies w p base most (.func (.func 38) #[] #[.pointer (some ⟨bx, 0, none⟩), .pointer (some ⟨bk, 0, none⟩), .pointer (some ⟨bc, 0, none⟩)])) (hs : Store w p B) (hb : inB base most) (hbx : XB B p bx) (hbk : VB B k bk) (hbc : IB B call bc) :
    Calls Try.prog 22 #[.pointer (some ⟨p, 0, none⟩), .int .i64 v] w (StepPost p base most B (goK base most (.start call k) v) w) := by
  have Hbx := Lib.hid hbx
  have Hbk := Lib.hid hbk
  have Hbc := Lib.hid hbc
  have HS := Lib.hid hs
  have HP := Lib.hid h
  have HB := Lib.hid hb
  obtain ⟨⟨c0, c1, c2⟩, f2, hlt⟩ := lies3 h
  clear h hs hb hbx hbk hbc
  have hgo : goK base most (.start call k) v = (readS (base + 0), K.goes call k 0 0) := rfl
  rw [hgo]
  clear hgo
  go_enter Try.func22, Try.ntmps22
  go_wp2_with fail
  refine (start_step _ p base most (.func (.func 38) #[] #[.pointer (some ⟨bx, 0, none⟩), .pointer (some ⟨bk, 0, none⟩), .pointer (some ⟨bc, 0, none⟩)]) B call k v bx bk bc (by first | exact HP.out | exact heap_old HP.out | exact heap_old (heap_old HP.out) | exact heap_old (heap_old (heap_old HP.out)) | exact heap_old (heap_old (heap_old (heap_old HP.out))) | exact heap_old (heap_old (heap_old (heap_old (heap_old HP.out)))) | exact heap_old (heap_old (heap_old (heap_old (heap_old (heap_old HP.out)))))) (HS.out.keep (by repeat (first | exact grown_refl _ _ | refine grown_alloc ?_ _ | refine grown_drewN ?_ _ | refine grown_drew ?_))) HB.out Hbx.out Hbk.out Hbc.out).mono ?_
  rintro e w1 ⟨rfl, post⟩
  have hg1 := box_grown post.1 (show (World.heap _)[w.heap.size]? = some (.cells #[.int .i64 0, .int .i64 0, .int .i64 0, .int .i64 0] 44 (0, 0)) from heap_new (by simp)) (by omega)
  obtain ⟨⟨d0, d1, d2, d3⟩, ⟨g0, g1, g2, g3⟩, hz⟩ := box4 hg1
  have POST := Lib.hid post
  clear post
  generalize (readS (base + 0), K.goes call k 0 0) = r at *
  obtain ⟨⟨r0, r1, r2, r3⟩, kk⟩ := r
  simp only [WantS.val]
  go_wp2
  exact bodyPost_ret (results_cell_row rfl _ _ _ _ _ _ _ rfl (heap_set (heap_set (heap_set (heap_set hg1)))) Try.underlying44 rfl infoWant) rfl (close_step (g := w.heap.size) (M := []) (by repeat (first | exact grown_refl _ _ | refine grown_alloc ?_ _ | refine grown_drewN ?_ _ | refine grown_drew ?_)) hlt (by omega) (by simp) (fun x hx => nomatch hx) ⟨rfl, POST.out⟩ rfl)

set_option maxRecDepth 100000 in
set_option maxHeartbeats 1000000 in
theorem next_keyOf (w : World) (p : Nat) (base most : Int) (B : List Ent) (v : Int)  (h : Lies w p base most (.func (.func 35) #[.pointer (some ⟨p, 0, none⟩)] #[])) (hs : Store w p B) (hb : inB base most) :
    Calls Try.prog 22 #[.pointer (some ⟨p, 0, none⟩), .int .i64 v] w (StepPost p base most B (goK base most (.keyOf) v) w) := by
  have HS := Lib.hid hs
  have HP := Lib.hid h
  have HB := Lib.hid hb
  obtain ⟨⟨c0, c1, c2⟩, f2, hlt⟩ := lies3 h
  clear h hs hb
  have hgo : goK base most (.keyOf) v = (goK base most .keyOf v) := rfl
  rw [hgo]
  clear hgo
  go_enter Try.func22, Try.ntmps22
  go_wp2_with fail
  refine (keyOf_step _ p base most (.func (.func 35) #[.pointer (some ⟨p, 0, none⟩)] #[]) B v (by first | exact HP.out | exact heap_old HP.out | exact heap_old (heap_old HP.out) | exact heap_old (heap_old (heap_old HP.out)) | exact heap_old (heap_old (heap_old (heap_old HP.out))) | exact heap_old (heap_old (heap_old (heap_old (heap_old HP.out)))) | exact heap_old (heap_old (heap_old (heap_old (heap_old (heap_old HP.out)))))) HB.out).mono ?_
  rintro e w1 ⟨rfl, post⟩
  have hg1 := box_grown post.1 (show (World.heap _)[w.heap.size]? = some (.cells #[.int .i64 0, .int .i64 0, .int .i64 0, .int .i64 0] 44 (0, 0)) from heap_new (by simp)) (by omega)
  obtain ⟨⟨d0, d1, d2, d3⟩, ⟨g0, g1, g2, g3⟩, hz⟩ := box4 hg1
  have POST := Lib.hid post
  clear post
  generalize (goK base most .keyOf v) = r at *
  obtain ⟨⟨r0, r1, r2, r3⟩, kk⟩ := r
  simp only [WantS.val]
  go_wp2
  exact bodyPost_ret (results_cell_row rfl _ _ _ _ _ _ _ rfl (heap_set (heap_set (heap_set (heap_set hg1)))) Try.underlying44 rfl infoWant) rfl (close_step (g := w.heap.size) (M := []) (by repeat (first | exact grown_refl _ _ | refine grown_alloc ?_ _ | refine grown_drewN ?_ _ | refine grown_drew ?_)) hlt (by omega) (by simp) (fun x hx => nomatch hx) ⟨rfl, POST.out⟩ rfl)

set_option maxRecDepth 100000 in
set_option maxHeartbeats 1000000 in
theorem next_keyOf1 (w : World) (p : Nat) (base most : Int) (B : List Ent) (v : Int)  (bx : Nat) (h : Lies w p base most (.func (.func 51) #[] #[.pointer (some ⟨bx, 0, none⟩)])) (hs : Store w p B) (hb : inB base most) (hbx : XB B p bx) :
    Calls Try.prog 22 #[.pointer (some ⟨p, 0, none⟩), .int .i64 v] w (StepPost p base most B (goK base most (.keyOf1) v) w) := by
  have Hbx := Lib.hid hbx
  have HS := Lib.hid hs
  have HP := Lib.hid h
  have HB := Lib.hid hb
  obtain ⟨⟨c0, c1, c2⟩, f2, hlt⟩ := lies3 h
  clear h hs hb hbx
  have hgo : goK base most (.keyOf1) v = (endK v 0) := rfl
  rw [hgo]
  clear hgo
  go_enter Try.func22, Try.ntmps22
  go_wp2_with fail
  refine (keyOf1_step _ p base most (.func (.func 51) #[] #[.pointer (some ⟨bx, 0, none⟩)]) B v bx (by first | exact HP.out | exact heap_old HP.out | exact heap_old (heap_old HP.out) | exact heap_old (heap_old (heap_old HP.out)) | exact heap_old (heap_old (heap_old (heap_old HP.out))) | exact heap_old (heap_old (heap_old (heap_old (heap_old HP.out)))) | exact heap_old (heap_old (heap_old (heap_old (heap_old (heap_old HP.out)))))) (HS.out.keep (by repeat (first | exact grown_refl _ _ | refine grown_alloc ?_ _ | refine grown_drewN ?_ _ | refine grown_drew ?_))) HB.out Hbx.out).mono ?_
  rintro e w1 ⟨rfl, post⟩
  have hg1 := box_grown post.1 (show (World.heap _)[w.heap.size]? = some (.cells #[.int .i64 0, .int .i64 0, .int .i64 0, .int .i64 0] 44 (0, 0)) from heap_new (by simp)) (by omega)
  obtain ⟨⟨d0, d1, d2, d3⟩, ⟨g0, g1, g2, g3⟩, hz⟩ := box4 hg1
  have POST := Lib.hid post
  clear post
  generalize (endK v 0) = r at *
  obtain ⟨⟨r0, r1, r2, r3⟩, kk⟩ := r
  simp only [WantS.val]
  go_wp2
  exact bodyPost_ret (results_cell_row rfl _ _ _ _ _ _ _ rfl (heap_set (heap_set (heap_set (heap_set hg1)))) Try.underlying44 rfl infoWant) rfl (close_step (g := w.heap.size) (M := []) (by repeat (first | exact grown_refl _ _ | refine grown_alloc ?_ _ | refine grown_drewN ?_ _ | refine grown_drew ?_)) hlt (by omega) (by simp) (fun x hx => nomatch hx) ⟨rfl, POST.out⟩ rfl)

set_option maxRecDepth 100000 in
set_option maxHeartbeats 1000000 in
theorem next_counts (w : World) (p : Nat) (base most : Int) (B : List Ent) (v : Int) (n : Int) (bx bn : Nat) (h : Lies w p base most (.func (.func 52) #[] #[.pointer (some ⟨bx, 0, none⟩), .pointer (some ⟨bn, 0, none⟩)])) (hs : Store w p B) (hb : inB base most) (hbx : XB B p bx) (hbn : VB B n bn) (hn : 0 ≤ n ∧ n ≤ most) :
    Calls Try.prog 22 #[.pointer (some ⟨p, 0, none⟩), .int .i64 v] w (StepPost p base most B (goK base most (.counts n) v) w) := by
  have Hbx := Lib.hid hbx
  have Hbn := Lib.hid hbn
  have HS := Lib.hid hs
  have HP := Lib.hid h
  have HB := Lib.hid hb
  obtain ⟨⟨c0, c1, c2⟩, f2, hlt⟩ := lies3 h
  clear h hs hb hbx hbn
  have hgo : goK base most (.counts n) v = (goK base most (.counts n) v) := rfl
  rw [hgo]
  clear hgo
  go_enter Try.func22, Try.ntmps22
  go_wp2_with fail
  refine (counts1_step _ p base most (.func (.func 52) #[] #[.pointer (some ⟨bx, 0, none⟩), .pointer (some ⟨bn, 0, none⟩)]) B n v bx bn (by first | exact HP.out | exact heap_old HP.out | exact heap_old (heap_old HP.out) | exact heap_old (heap_old (heap_old HP.out)) | exact heap_old (heap_old (heap_old (heap_old HP.out))) | exact heap_old (heap_old (heap_old (heap_old (heap_old HP.out)))) | exact heap_old (heap_old (heap_old (heap_old (heap_old (heap_old HP.out)))))) (HS.out.keep (by repeat (first | exact grown_refl _ _ | refine grown_alloc ?_ _ | refine grown_drewN ?_ _ | refine grown_drew ?_))) HB.out Hbx.out Hbn.out hn).mono ?_
  rintro e w1 ⟨rfl, post⟩
  have hg1 := box_grown post.1 (show (World.heap _)[w.heap.size]? = some (.cells #[.int .i64 0, .int .i64 0, .int .i64 0, .int .i64 0] 44 (0, 0)) from heap_new (by simp)) (by omega)
  obtain ⟨⟨d0, d1, d2, d3⟩, ⟨g0, g1, g2, g3⟩, hz⟩ := box4 hg1
  have POST := Lib.hid post
  clear post
  generalize (goK base most (.counts n) v) = r at *
  obtain ⟨⟨r0, r1, r2, r3⟩, kk⟩ := r
  simp only [WantS.val]
  go_wp2
  exact bodyPost_ret (results_cell_row rfl _ _ _ _ _ _ _ rfl (heap_set (heap_set (heap_set (heap_set hg1)))) Try.underlying44 rfl infoWant) rfl (close_step (g := w.heap.size) (M := []) (by repeat (first | exact grown_refl _ _ | refine grown_alloc ?_ _ | refine grown_drewN ?_ _ | refine grown_drew ?_)) hlt (by omega) (by simp) (fun x hx => nomatch hx) ⟨rfl, POST.out⟩ rfl)

set_option maxRecDepth 100000 in
set_option maxHeartbeats 1000000 in
theorem next_goes (w : World) (p : Nat) (base most : Int) (B : List Ent) (v : Int) (call k cell n : Int) (bx bn bt t1 t2 t3 bc bk : Nat) (h : Lies w p base most (.func (.func 53) #[] #[.pointer (some ⟨bx, 0, none⟩), .pointer (some ⟨bn, 0, none⟩), .pointer (some ⟨bt, 0, none⟩), .pointer (some ⟨bc, 0, none⟩), .pointer (some ⟨bk, 0, none⟩)])) (hs : Store w p B) (hb : inB base most) (hbx : XB B p bx) (hbn : VB B n bn) (hbt : ⟨bt, #[.func (.func 40) #[] #[.pointer (some ⟨t1, 0, none⟩), .pointer (some ⟨t2, 0, none⟩), .pointer (some ⟨t3, 0, none⟩)]], 76⟩ ∈ B) (ht1 : IB B call t1) (ht2 : XB B p t2) (ht3 : VB B k t3) (hbc : IB B cell bc) (hbk : VB B k bk) (hn : 0 ≤ n ∧ n ≤ most) :
    Calls Try.prog 22 #[.pointer (some ⟨p, 0, none⟩), .int .i64 v] w (StepPost p base most B (goK base most (.goes call k cell n) v) w) := by
  have Hbx := Lib.hid hbx
  have Hbn := Lib.hid hbn
  have Hbt := Lib.hid hbt
  have Ht1 := Lib.hid ht1
  have Ht2 := Lib.hid ht2
  have Ht3 := Lib.hid ht3
  have Hbc := Lib.hid hbc
  have Hbk := Lib.hid hbk
  have HS := Lib.hid hs
  have HP := Lib.hid h
  have HB := Lib.hid hb
  obtain ⟨⟨c0, c1, c2⟩, f2, hlt⟩ := lies3 h
  clear h hs hb hbx hbn hbt ht1 ht2 ht3 hbc hbk
  have hgo : goK base most (.goes call k cell n) v = (goK base most (.goes call k cell n) v) := rfl
  rw [hgo]
  clear hgo
  go_enter Try.func22, Try.ntmps22
  go_wp2_with fail
  refine (goes1_step _ p base most (.func (.func 53) #[] #[.pointer (some ⟨bx, 0, none⟩), .pointer (some ⟨bn, 0, none⟩), .pointer (some ⟨bt, 0, none⟩), .pointer (some ⟨bc, 0, none⟩), .pointer (some ⟨bk, 0, none⟩)]) B call k cell n v bx bn bt t1 t2 t3 bc bk (by first | exact HP.out | exact heap_old HP.out | exact heap_old (heap_old HP.out) | exact heap_old (heap_old (heap_old HP.out)) | exact heap_old (heap_old (heap_old (heap_old HP.out))) | exact heap_old (heap_old (heap_old (heap_old (heap_old HP.out)))) | exact heap_old (heap_old (heap_old (heap_old (heap_old (heap_old HP.out)))))) (HS.out.keep (by repeat (first | exact grown_refl _ _ | refine grown_alloc ?_ _ | refine grown_drewN ?_ _ | refine grown_drew ?_))) HB.out Hbx.out Hbn.out Hbt.out Ht1.out Ht2.out Ht3.out Hbc.out Hbk.out hn).mono ?_
  rintro e w1 ⟨rfl, post⟩
  have hg1 := box_grown post.1 (show (World.heap _)[w.heap.size]? = some (.cells #[.int .i64 0, .int .i64 0, .int .i64 0, .int .i64 0] 44 (0, 0)) from heap_new (by simp)) (by omega)
  obtain ⟨⟨d0, d1, d2, d3⟩, ⟨g0, g1, g2, g3⟩, hz⟩ := box4 hg1
  have POST := Lib.hid post
  clear post
  generalize (goK base most (.goes call k cell n) v) = r at *
  obtain ⟨⟨r0, r1, r2, r3⟩, kk⟩ := r
  simp only [WantS.val]
  go_wp2
  exact bodyPost_ret (results_cell_row rfl _ _ _ _ _ _ _ rfl (heap_set (heap_set (heap_set (heap_set hg1)))) Try.underlying44 rfl infoWant) rfl (close_step (g := w.heap.size) (M := []) (by repeat (first | exact grown_refl _ _ | refine grown_alloc ?_ _ | refine grown_drewN ?_ _ | refine grown_drew ?_)) hlt (by omega) (by simp) (fun x hx => nomatch hx) ⟨rfl, POST.out⟩ rfl)

set_option maxRecDepth 100000 in
set_option maxHeartbeats 1000000 in
theorem next_goes1 (w : World) (p : Nat) (base most : Int) (B : List Ent) (v : Int) (call k cell n q : Int) (bk bt t1 t2 t3 bc bp bx bn : Nat) (h : Lies w p base most (.func (.func 54) #[] #[.pointer (some ⟨bk, 0, none⟩), .pointer (some ⟨bt, 0, none⟩), .pointer (some ⟨bc, 0, none⟩), .pointer (some ⟨bp, 0, none⟩), .pointer (some ⟨bx, 0, none⟩), .pointer (some ⟨bn, 0, none⟩)])) (hs : Store w p B) (hb : inB base most) (hbk : VB B k bk) (hbt : ⟨bt, #[.func (.func 40) #[] #[.pointer (some ⟨t1, 0, none⟩), .pointer (some ⟨t2, 0, none⟩), .pointer (some ⟨t3, 0, none⟩)]], 76⟩ ∈ B) (ht1 : IB B call t1) (ht2 : XB B p t2) (ht3 : VB B k t3) (hbc : IB B cell bc) (hbp : VB B q bp) (hbx : XB B p bx) (hbn : VB B n bn) (hn : 0 ≤ n ∧ n < most) (hl : leadsP most q) :
    Calls Try.prog 22 #[.pointer (some ⟨p, 0, none⟩), .int .i64 v] w (StepPost p base most B (goK base most (.goes1 call k cell n q) v) w) := by
  have Hbk := Lib.hid hbk
  have Hbt := Lib.hid hbt
  have Ht1 := Lib.hid ht1
  have Ht2 := Lib.hid ht2
  have Ht3 := Lib.hid ht3
  have Hbc := Lib.hid hbc
  have Hbp := Lib.hid hbp
  have Hbx := Lib.hid hbx
  have Hbn := Lib.hid hbn
  have HS := Lib.hid hs
  have HP := Lib.hid h
  have HB := Lib.hid hb
  obtain ⟨⟨c0, c1, c2⟩, f2, hlt⟩ := lies3 h
  clear h hs hb hbk hbt ht1 ht2 ht3 hbc hbp hbx hbn
  have hgo : goK base most (.goes1 call k cell n q) v = (goK base most (.goes1 call k cell n q) v) := rfl
  rw [hgo]
  clear hgo
  go_enter Try.func22, Try.ntmps22
  go_wp2_with fail
  refine (goes11_step _ p base most (.func (.func 54) #[] #[.pointer (some ⟨bk, 0, none⟩), .pointer (some ⟨bt, 0, none⟩), .pointer (some ⟨bc, 0, none⟩), .pointer (some ⟨bp, 0, none⟩), .pointer (some ⟨bx, 0, none⟩), .pointer (some ⟨bn, 0, none⟩)]) B call k cell n q v bk bt t1 t2 t3 bc bp bx bn (by first | exact HP.out | exact heap_old HP.out | exact heap_old (heap_old HP.out) | exact heap_old (heap_old (heap_old HP.out)) | exact heap_old (heap_old (heap_old (heap_old HP.out))) | exact heap_old (heap_old (heap_old (heap_old (heap_old HP.out)))) | exact heap_old (heap_old (heap_old (heap_old (heap_old (heap_old HP.out)))))) (HS.out.keep (by repeat (first | exact grown_refl _ _ | refine grown_alloc ?_ _ | refine grown_drewN ?_ _ | refine grown_drew ?_))) HB.out Hbk.out Hbt.out Ht1.out Ht2.out Ht3.out Hbc.out Hbp.out Hbx.out Hbn.out hn hl).mono ?_
  rintro e w1 ⟨rfl, post⟩
  have hg1 := box_grown post.1 (show (World.heap _)[w.heap.size]? = some (.cells #[.int .i64 0, .int .i64 0, .int .i64 0, .int .i64 0] 44 (0, 0)) from heap_new (by simp)) (by omega)
  obtain ⟨⟨d0, d1, d2, d3⟩, ⟨g0, g1, g2, g3⟩, hz⟩ := box4 hg1
  have POST := Lib.hid post
  clear post
  generalize (goK base most (.goes1 call k cell n q) v) = r at *
  obtain ⟨⟨r0, r1, r2, r3⟩, kk⟩ := r
  simp only [WantS.val]
  go_wp2
  exact bodyPost_ret (results_cell_row rfl _ _ _ _ _ _ _ rfl (heap_set (heap_set (heap_set (heap_set hg1)))) Try.underlying44 rfl infoWant) rfl (close_step (g := w.heap.size) (M := []) (by repeat (first | exact grown_refl _ _ | refine grown_alloc ?_ _ | refine grown_drewN ?_ _ | refine grown_drew ?_)) hlt (by omega) (by simp) (fun x hx => nomatch hx) ⟨rfl, POST.out⟩ rfl)

set_option maxRecDepth 100000 in
set_option maxHeartbeats 1000000 in
theorem next_addF (w : World) (p : Nat) (base most : Int) (B : List Ent) (v : Int) (k : Int) (d : WayD) (bx bl : Nat) (h : Lies w p base most (.func (.func 60) #[] #[.pointer (some ⟨bx, 0, none⟩), .pointer (some ⟨bl, 0, none⟩)])) (hs : Store w p B) (hb : inB base most) (hbx : XB B p bx) (hbl : LaysB B p k d bl) :
    Calls Try.prog 22 #[.pointer (some ⟨p, 0, none⟩), .int .i64 v] w (StepPost p base most B (goK base most (.addF k d) v) w) := by
  have Hbx := Lib.hid hbx
  have Hbl := Lib.hid hbl
  have HS := Lib.hid hs
  have HP := Lib.hid h
  have HB := Lib.hid hb
  obtain ⟨⟨c0, c1, c2⟩, f2, hlt⟩ := lies3 h
  clear h hs hb hbx hbl
  have hgo : goK base most (.addF k d) v = (goK base most (.addF k d) v) := rfl
  rw [hgo]
  clear hgo
  go_enter Try.func22, Try.ntmps22
  go_wp2_with fail
  refine (addF_step _ p base most (.func (.func 60) #[] #[.pointer (some ⟨bx, 0, none⟩), .pointer (some ⟨bl, 0, none⟩)]) B k v d bx bl (by first | exact HP.out | exact heap_old HP.out | exact heap_old (heap_old HP.out) | exact heap_old (heap_old (heap_old HP.out)) | exact heap_old (heap_old (heap_old (heap_old HP.out))) | exact heap_old (heap_old (heap_old (heap_old (heap_old HP.out)))) | exact heap_old (heap_old (heap_old (heap_old (heap_old (heap_old HP.out)))))) (HS.out.keep (by repeat (first | exact grown_refl _ _ | refine grown_alloc ?_ _ | refine grown_drewN ?_ _ | refine grown_drew ?_))) HB.out Hbx.out Hbl.out).mono ?_
  rintro e w1 ⟨rfl, post⟩
  have hg1 := box_grown post.1 (show (World.heap _)[w.heap.size]? = some (.cells #[.int .i64 0, .int .i64 0, .int .i64 0, .int .i64 0] 44 (0, 0)) from heap_new (by simp)) (by omega)
  obtain ⟨⟨d0, d1, d2, d3⟩, ⟨g0, g1, g2, g3⟩, hz⟩ := box4 hg1
  have POST := Lib.hid post
  clear post
  generalize (goK base most (.addF k d) v) = r at *
  obtain ⟨⟨r0, r1, r2, r3⟩, kk⟩ := r
  simp only [WantS.val]
  go_wp2
  exact bodyPost_ret (results_cell_row rfl _ _ _ _ _ _ _ rfl (heap_set (heap_set (heap_set (heap_set hg1)))) Try.underlying44 rfl infoWant) rfl (close_step (g := w.heap.size) (M := []) (by repeat (first | exact grown_refl _ _ | refine grown_alloc ?_ _ | refine grown_drewN ?_ _ | refine grown_drew ?_)) hlt (by omega) (by simp) (fun x hx => nomatch hx) ⟨rfl, POST.out⟩ rfl)

set_option maxRecDepth 100000 in
set_option maxHeartbeats 1000000 in
theorem next_addQ (w : World) (p : Nat) (base most : Int) (B : List Ent) (v : Int) (k f : Int) (d : WayD) (bx bl bf : Nat) (h : Lies w p base most (.func (.func 61) #[] #[.pointer (some ⟨bx, 0, none⟩), .pointer (some ⟨bl, 0, none⟩), .pointer (some ⟨bf, 0, none⟩)])) (hs : Store w p B) (hb : inB base most) (hbx : XB B p bx) (hbl : LaysB B p k d bl) (hbf : VB B f bf) :
    Calls Try.prog 22 #[.pointer (some ⟨p, 0, none⟩), .int .i64 v] w (StepPost p base most B (goK base most (.addQ k d f) v) w) := by
  have Hbx := Lib.hid hbx
  have Hbl := Lib.hid hbl
  have Hbf := Lib.hid hbf
  have HS := Lib.hid hs
  have HP := Lib.hid h
  have HB := Lib.hid hb
  obtain ⟨⟨c0, c1, c2⟩, f2, hlt⟩ := lies3 h
  clear h hs hb hbx hbl hbf
  have hgo : goK base most (.addQ k d f) v = (putS (base + 1) v, K.put (.lays1 k d f)) := rfl
  rw [hgo]
  clear hgo
  go_enter Try.func22, Try.ntmps22
  go_wp2_with fail
  refine (addQ_step _ p base most (.func (.func 61) #[] #[.pointer (some ⟨bx, 0, none⟩), .pointer (some ⟨bl, 0, none⟩), .pointer (some ⟨bf, 0, none⟩)]) B k v f d bx bl bf (by first | exact HP.out | exact heap_old HP.out | exact heap_old (heap_old HP.out) | exact heap_old (heap_old (heap_old HP.out)) | exact heap_old (heap_old (heap_old (heap_old HP.out))) | exact heap_old (heap_old (heap_old (heap_old (heap_old HP.out)))) | exact heap_old (heap_old (heap_old (heap_old (heap_old (heap_old HP.out)))))) (HS.out.keep (by repeat (first | exact grown_refl _ _ | refine grown_alloc ?_ _ | refine grown_drewN ?_ _ | refine grown_drew ?_))) HB.out Hbx.out Hbl.out Hbf.out).mono ?_
  rintro e w1 ⟨rfl, post⟩
  have hg1 := box_grown post.1 (show (World.heap _)[w.heap.size]? = some (.cells #[.int .i64 0, .int .i64 0, .int .i64 0, .int .i64 0] 44 (0, 0)) from heap_new (by simp)) (by omega)
  obtain ⟨⟨d0, d1, d2, d3⟩, ⟨g0, g1, g2, g3⟩, hz⟩ := box4 hg1
  have POST := Lib.hid post
  clear post
  generalize (putS (base + 1) v, K.put (.lays1 k d f)) = r at *
  obtain ⟨⟨r0, r1, r2, r3⟩, kk⟩ := r
  simp only [WantS.val]
  go_wp2
  exact bodyPost_ret (results_cell_row rfl _ _ _ _ _ _ _ rfl (heap_set (heap_set (heap_set (heap_set hg1)))) Try.underlying44 rfl infoWant) rfl (close_step (g := w.heap.size) (M := []) (by repeat (first | exact grown_refl _ _ | refine grown_alloc ?_ _ | refine grown_drewN ?_ _ | refine grown_drew ?_)) hlt (by omega) (by simp) (fun x hx => nomatch hx) ⟨rfl, POST.out⟩ rfl)

set_option maxRecDepth 100000 in
set_option maxHeartbeats 1000000 in
theorem next_addU (w : World) (p : Nat) (base most : Int) (B : List Ent) (v : Int) (k : Int) (d : WayD) (bx bl : Nat) (h : Lies w p base most (.func (.func 63) #[] #[.pointer (some ⟨bx, 0, none⟩), .pointer (some ⟨bl, 0, none⟩)])) (hs : Store w p B) (hb : inB base most) (hbx : XB B p bx) (hbl : LaysB B p k d bl) :
    Calls Try.prog 22 #[.pointer (some ⟨p, 0, none⟩), .int .i64 v] w (StepPost p base most B (goK base most (.addU k d) v) w) := by
  have Hbx := Lib.hid hbx
  have Hbl := Lib.hid hbl
  have HS := Lib.hid hs
  have HP := Lib.hid h
  have HB := Lib.hid hb
  obtain ⟨⟨c0, c1, c2⟩, f2, hlt⟩ := lies3 h
  clear h hs hb hbx hbl
  have hgo : goK base most (.addU k d) v = (goK base most (.addU k d) v) := rfl
  rw [hgo]
  clear hgo
  go_enter Try.func22, Try.ntmps22
  go_wp2_with fail
  refine (addU_step _ p base most (.func (.func 63) #[] #[.pointer (some ⟨bx, 0, none⟩), .pointer (some ⟨bl, 0, none⟩)]) B k v d bx bl (by first | exact HP.out | exact heap_old HP.out | exact heap_old (heap_old HP.out) | exact heap_old (heap_old (heap_old HP.out)) | exact heap_old (heap_old (heap_old (heap_old HP.out))) | exact heap_old (heap_old (heap_old (heap_old (heap_old HP.out)))) | exact heap_old (heap_old (heap_old (heap_old (heap_old (heap_old HP.out)))))) (HS.out.keep (by repeat (first | exact grown_refl _ _ | refine grown_alloc ?_ _ | refine grown_drewN ?_ _ | refine grown_drew ?_))) HB.out Hbx.out Hbl.out).mono ?_
  rintro e w1 ⟨rfl, post⟩
  have hg1 := box_grown post.1 (show (World.heap _)[w.heap.size]? = some (.cells #[.int .i64 0, .int .i64 0, .int .i64 0, .int .i64 0] 44 (0, 0)) from heap_new (by simp)) (by omega)
  obtain ⟨⟨d0, d1, d2, d3⟩, ⟨g0, g1, g2, g3⟩, hz⟩ := box4 hg1
  have POST := Lib.hid post
  clear post
  generalize (goK base most (.addU k d) v) = r at *
  obtain ⟨⟨r0, r1, r2, r3⟩, kk⟩ := r
  simp only [WantS.val]
  go_wp2
  exact bodyPost_ret (results_cell_row rfl _ _ _ _ _ _ _ rfl (heap_set (heap_set (heap_set (heap_set hg1)))) Try.underlying44 rfl infoWant) rfl (close_step (g := w.heap.size) (M := []) (by repeat (first | exact grown_refl _ _ | refine grown_alloc ?_ _ | refine grown_drewN ?_ _ | refine grown_drew ?_)) hlt (by omega) (by simp) (fun x hx => nomatch hx) ⟨rfl, POST.out⟩ rfl)

set_option maxRecDepth 100000 in
set_option maxHeartbeats 1000000 in
theorem next_delQ (w : World) (p : Nat) (base most : Int) (B : List Ent) (v : Int) (d : WayD) (bx bw : Nat) (h : Lies w p base most (.func (.func 65) #[] #[.pointer (some ⟨bx, 0, none⟩), .pointer (some ⟨bw, 0, none⟩)])) (hs : Store w p B) (hb : inB base most) (hbx : XB B p bx) (hbw : WB B d bw) (hc : cellOk d.cell) :
    Calls Try.prog 22 #[.pointer (some ⟨p, 0, none⟩), .int .i64 v] w (StepPost p base most B (goK base most (.delQ d) v) w) := by
  have Hbx := Lib.hid hbx
  have Hbw := Lib.hid hbw
  have HS := Lib.hid hs
  have HP := Lib.hid h
  have HB := Lib.hid hb
  obtain ⟨⟨c0, c1, c2⟩, f2, hlt⟩ := lies3 h
  clear h hs hb hbx hbw
  have hgo : goK base most (.delQ d) v = (putS (base + d.cell) v, K.put (.delW d)) := rfl
  rw [hgo]
  clear hgo
  go_enter Try.func22, Try.ntmps22
  go_wp2_with fail
  refine (delQ_step _ p base most (.func (.func 65) #[] #[.pointer (some ⟨bx, 0, none⟩), .pointer (some ⟨bw, 0, none⟩)]) B v d bx bw (by first | exact HP.out | exact heap_old HP.out | exact heap_old (heap_old HP.out) | exact heap_old (heap_old (heap_old HP.out)) | exact heap_old (heap_old (heap_old (heap_old HP.out))) | exact heap_old (heap_old (heap_old (heap_old (heap_old HP.out)))) | exact heap_old (heap_old (heap_old (heap_old (heap_old (heap_old HP.out)))))) (HS.out.keep (by repeat (first | exact grown_refl _ _ | refine grown_alloc ?_ _ | refine grown_drewN ?_ _ | refine grown_drew ?_))) HB.out Hbx.out Hbw.out hc).mono ?_
  rintro e w1 ⟨rfl, post⟩
  have hg1 := box_grown post.1 (show (World.heap _)[w.heap.size]? = some (.cells #[.int .i64 0, .int .i64 0, .int .i64 0, .int .i64 0] 44 (0, 0)) from heap_new (by simp)) (by omega)
  obtain ⟨⟨d0, d1, d2, d3⟩, ⟨g0, g1, g2, g3⟩, hz⟩ := box4 hg1
  have POST := Lib.hid post
  clear post
  generalize (putS (base + d.cell) v, K.put (.delW d)) = r at *
  obtain ⟨⟨r0, r1, r2, r3⟩, kk⟩ := r
  simp only [WantS.val]
  go_wp2
  exact bodyPost_ret (results_cell_row rfl _ _ _ _ _ _ _ rfl (heap_set (heap_set (heap_set (heap_set hg1)))) Try.underlying44 rfl infoWant) rfl (close_step (g := w.heap.size) (M := []) (by repeat (first | exact grown_refl _ _ | refine grown_alloc ?_ _ | refine grown_drewN ?_ _ | refine grown_drew ?_)) hlt (by omega) (by simp) (fun x hx => nomatch hx) ⟨rfl, POST.out⟩ rfl)

set_option maxRecDepth 100000 in
set_option maxHeartbeats 1000000 in
theorem next_delF (w : World) (p : Nat) (base most : Int) (B : List Ent) (v : Int) (d : WayD) (bx bw : Nat) (h : Lies w p base most (.func (.func 67) #[] #[.pointer (some ⟨bx, 0, none⟩), .pointer (some ⟨bw, 0, none⟩)])) (hs : Store w p B) (hb : inB base most) (hbx : XB B p bx) (hbw : WB B d bw) (hl : leadsP most d.p) :
    Calls Try.prog 22 #[.pointer (some ⟨p, 0, none⟩), .int .i64 v] w (StepPost p base most B (goK base most (.delF d) v) w) := by
  have Hbx := Lib.hid hbx
  have Hbw := Lib.hid hbw
  have HS := Lib.hid hs
  have HP := Lib.hid h
  have HB := Lib.hid hb
  obtain ⟨⟨c0, c1, c2⟩, f2, hlt⟩ := lies3 h
  clear h hs hb hbx hbw
  have hgo : goK base most (.delF d) v = (putS (base + linkI d.p) v, K.put (.delL d)) := rfl
  rw [hgo]
  clear hgo
  go_enter Try.func22, Try.ntmps22
  go_wp2_with fail
  refine (delF_step _ p base most (.func (.func 67) #[] #[.pointer (some ⟨bx, 0, none⟩), .pointer (some ⟨bw, 0, none⟩)]) B v d bx bw (by first | exact HP.out | exact heap_old HP.out | exact heap_old (heap_old HP.out) | exact heap_old (heap_old (heap_old HP.out)) | exact heap_old (heap_old (heap_old (heap_old HP.out))) | exact heap_old (heap_old (heap_old (heap_old (heap_old HP.out)))) | exact heap_old (heap_old (heap_old (heap_old (heap_old (heap_old HP.out)))))) (HS.out.keep (by repeat (first | exact grown_refl _ _ | refine grown_alloc ?_ _ | refine grown_drewN ?_ _ | refine grown_drew ?_))) HB.out Hbx.out Hbw.out hl).mono ?_
  rintro e w1 ⟨rfl, post⟩
  have hg1 := box_grown post.1 (show (World.heap _)[w.heap.size]? = some (.cells #[.int .i64 0, .int .i64 0, .int .i64 0, .int .i64 0] 44 (0, 0)) from heap_new (by simp)) (by omega)
  obtain ⟨⟨d0, d1, d2, d3⟩, ⟨g0, g1, g2, g3⟩, hz⟩ := box4 hg1
  have POST := Lib.hid post
  clear post
  generalize (putS (base + linkI d.p) v, K.put (.delL d)) = r at *
  obtain ⟨⟨r0, r1, r2, r3⟩, kk⟩ := r
  simp only [WantS.val]
  go_wp2
  exact bodyPost_ret (results_cell_row rfl _ _ _ _ _ _ _ rfl (heap_set (heap_set (heap_set (heap_set hg1)))) Try.underlying44 rfl infoWant) rfl (close_step (g := w.heap.size) (M := []) (by repeat (first | exact grown_refl _ _ | refine grown_alloc ?_ _ | refine grown_drewN ?_ _ | refine grown_drew ?_)) hlt (by omega) (by simp) (fun x hx => nomatch hx) ⟨rfl, POST.out⟩ rfl)

set_option maxRecDepth 100000 in
set_option maxHeartbeats 1000000 in
theorem next_put_lays1 (w : World) (p : Nat) (base most : Int) (B : List Ent) (v : Int) (k f : Int) (d : WayD) (s3 : Nat) (bl s1 s2 bf bt : Nat) (h : Lies w p base most (.func (.func 79) #[] #[.pointer (some ⟨bt, 0, none⟩)])) (hs : Store w p B) (hb : inB base most) (hbl : ⟨bl, #[.func (.func 55) #[] #[.pointer (some ⟨s1, 0, none⟩), .pointer (some ⟨s2, 0, none⟩), .pointer (some ⟨s3, 0, none⟩)]], 45⟩ ∈ B) (hs1 : XB B p s1) (hs2 : VB B k s2) (hbf : VB B f bf) (hbt : ⟨bt, #[.func (.func 62) #[] #[.pointer (some ⟨bl, 0, none⟩), .pointer (some ⟨bf, 0, none⟩)]], 83⟩ ∈ B) (hs3 : WB B d s3) (hl : leadsP most f) :
    Calls Try.prog 22 #[.pointer (some ⟨p, 0, none⟩), .int .i64 v] w (StepPost p base most B (goK base most (.put (.lays1 k d f)) v) w) := by
  have Hbl := Lib.hid hbl
  have Hs1 := Lib.hid hs1
  have Hs2 := Lib.hid hs2
  have Hbf := Lib.hid hbf
  have Hbt := Lib.hid hbt
  have HS := Lib.hid hs
  have HP := Lib.hid h
  have HB := Lib.hid hb
  obtain ⟨⟨c0, c1, c2⟩, f2, hlt⟩ := lies3 h
  clear h hs hb hbl hs1 hs2 hbf hbt
  have hgo : goK base most (.put (.lays1 k d f)) v = (laysK base k d f) := rfl
  rw [hgo]
  clear hgo
  go_enter Try.func22, Try.ntmps22
  go_wp2_with fail
  refine (w1_lays1 _ p base most (.func (.func 79) #[] #[.pointer (some ⟨bt, 0, none⟩)]) B v k f d s3 bl s1 s2 bf bt (by first | exact HP.out | exact heap_old HP.out | exact heap_old (heap_old HP.out) | exact heap_old (heap_old (heap_old HP.out)) | exact heap_old (heap_old (heap_old (heap_old HP.out))) | exact heap_old (heap_old (heap_old (heap_old (heap_old HP.out)))) | exact heap_old (heap_old (heap_old (heap_old (heap_old (heap_old HP.out)))))) (HS.out.keep (by repeat (first | exact grown_refl _ _ | refine grown_alloc ?_ _ | refine grown_drewN ?_ _ | refine grown_drew ?_))) HB.out Hbl.out Hs1.out Hs2.out Hbf.out Hbt.out hs3 hl).mono ?_
  rintro e w1 ⟨rfl, post⟩
  have hg1 := box_grown post.1 (show (World.heap _)[w.heap.size]? = some (.cells #[.int .i64 0, .int .i64 0, .int .i64 0, .int .i64 0] 44 (0, 0)) from heap_new (by simp)) (by omega)
  obtain ⟨⟨d0, d1, d2, d3⟩, ⟨g0, g1, g2, g3⟩, hz⟩ := box4 hg1
  have POST := Lib.hid post
  clear post
  generalize (laysK base k d f) = r at *
  obtain ⟨⟨r0, r1, r2, r3⟩, kk⟩ := r
  simp only [WantS.val]
  go_wp2
  exact bodyPost_ret (results_cell_row rfl _ _ _ _ _ _ _ rfl (heap_set (heap_set (heap_set (heap_set hg1)))) Try.underlying44 rfl infoWant) rfl (close_step (g := w.heap.size) (M := []) (by repeat (first | exact grown_refl _ _ | refine grown_alloc ?_ _ | refine grown_drewN ?_ _ | refine grown_drew ?_)) hlt (by omega) (by simp) (fun x hx => nomatch hx) ⟨rfl, POST.out⟩ rfl)

set_option maxRecDepth 100000 in
set_option maxHeartbeats 1000000 in
theorem next_put_lays2 (w : World) (p : Nat) (base most : Int) (B : List Ent) (v : Int) (k f : Int) (d : WayD) (s3 : Nat) (bl s1 s2 bf bt : Nat) (h : Lies w p base most (.func (.func 79) #[] #[.pointer (some ⟨bt, 0, none⟩)])) (hs : Store w p B) (hb : inB base most) (hbl : ⟨bl, #[.func (.func 55) #[] #[.pointer (some ⟨s1, 0, none⟩), .pointer (some ⟨s2, 0, none⟩), .pointer (some ⟨s3, 0, none⟩)]], 45⟩ ∈ B) (hs1 : XB B p s1) (hs2 : VB B k s2) (hbf : VB B f bf) (hbt : ⟨bt, #[.func (.func 64) #[] #[.pointer (some ⟨bl, 0, none⟩), .pointer (some ⟨bf, 0, none⟩)]], 83⟩ ∈ B) (hs3 : WB B d s3) (hf : 0 ≤ f ∧ f < most) :
    Calls Try.prog 22 #[.pointer (some ⟨p, 0, none⟩), .int .i64 v] w (StepPost p base most B (goK base most (.put (.lays2 k d f)) v) w) := by
  have Hbl := Lib.hid hbl
  have Hs1 := Lib.hid hs1
  have Hs2 := Lib.hid hs2
  have Hbf := Lib.hid hbf
  have Hbt := Lib.hid hbt
  have HS := Lib.hid hs
  have HP := Lib.hid h
  have HB := Lib.hid hb
  obtain ⟨⟨c0, c1, c2⟩, f2, hlt⟩ := lies3 h
  clear h hs hb hbl hs1 hs2 hbf hbt
  have hgo : goK base most (.put (.lays2 k d f)) v = (laysK base k d (f + 1)) := rfl
  rw [hgo]
  clear hgo
  go_enter Try.func22, Try.ntmps22
  go_wp2_with fail
  refine (w1_lays2 _ p base most (.func (.func 79) #[] #[.pointer (some ⟨bt, 0, none⟩)]) B v k f d s3 bl s1 s2 bf bt (by first | exact HP.out | exact heap_old HP.out | exact heap_old (heap_old HP.out) | exact heap_old (heap_old (heap_old HP.out)) | exact heap_old (heap_old (heap_old (heap_old HP.out))) | exact heap_old (heap_old (heap_old (heap_old (heap_old HP.out)))) | exact heap_old (heap_old (heap_old (heap_old (heap_old (heap_old HP.out)))))) (HS.out.keep (by repeat (first | exact grown_refl _ _ | refine grown_alloc ?_ _ | refine grown_drewN ?_ _ | refine grown_drew ?_))) HB.out Hbl.out Hs1.out Hs2.out Hbf.out Hbt.out hs3 hf).mono ?_
  rintro e w1 ⟨rfl, post⟩
  have hg1 := box_grown post.1 (show (World.heap _)[w.heap.size]? = some (.cells #[.int .i64 0, .int .i64 0, .int .i64 0, .int .i64 0] 44 (0, 0)) from heap_new (by simp)) (by omega)
  obtain ⟨⟨d0, d1, d2, d3⟩, ⟨g0, g1, g2, g3⟩, hz⟩ := box4 hg1
  have POST := Lib.hid post
  clear post
  generalize (laysK base k d (f + 1)) = r at *
  obtain ⟨⟨r0, r1, r2, r3⟩, kk⟩ := r
  simp only [WantS.val]
  go_wp2
  exact bodyPost_ret (results_cell_row rfl _ _ _ _ _ _ _ rfl (heap_set (heap_set (heap_set (heap_set hg1)))) Try.underlying44 rfl infoWant) rfl (close_step (g := w.heap.size) (M := []) (by repeat (first | exact grown_refl _ _ | refine grown_alloc ?_ _ | refine grown_drewN ?_ _ | refine grown_drew ?_)) hlt (by omega) (by simp) (fun x hx => nomatch hx) ⟨rfl, POST.out⟩ rfl)

set_option maxRecDepth 100000 in
set_option maxHeartbeats 1000000 in
theorem next_put_key (w : World) (p : Nat) (base most : Int) (B : List Ent) (v : Int) (k node : Int) (d : WayD) (bx bn bw bt : Nat) (h : Lies w p base most (.func (.func 79) #[] #[.pointer (some ⟨bt, 0, none⟩)])) (hs : Store w p B) (hb : inB base most) (hbx : XB B p bx) (hbn : VB B node bn) (hbw : WB B d bw) (hbt : ⟨bt, #[.func (.func 57) #[] #[.pointer (some ⟨bx, 0, none⟩), .pointer (some ⟨bn, 0, none⟩), .pointer (some ⟨bw, 0, none⟩)]], 83⟩ ∈ B) (hl : leadsP most node) :
    Calls Try.prog 22 #[.pointer (some ⟨p, 0, none⟩), .int .i64 v] w (StepPost p base most B (goK base most (.put (.key k d node)) v) w) := by
  have Hbx := Lib.hid hbx
  have Hbn := Lib.hid hbn
  have Hbw := Lib.hid hbw
  have Hbt := Lib.hid hbt
  have HS := Lib.hid hs
  have HP := Lib.hid h
  have HB := Lib.hid hb
  obtain ⟨⟨c0, c1, c2⟩, f2, hlt⟩ := lies3 h
  clear h hs hb hbx hbn hbw hbt
  have hgo : goK base most (.put (.key k d node)) v = (putS (base + linkI node) d.p, K.put (.link k d node)) := rfl
  rw [hgo]
  clear hgo
  go_enter Try.func22, Try.ntmps22
  go_wp2_with fail
  refine (w1_key _ p base most (.func (.func 79) #[] #[.pointer (some ⟨bt, 0, none⟩)]) B v k node d bx bn bw bt (by first | exact HP.out | exact heap_old HP.out | exact heap_old (heap_old HP.out) | exact heap_old (heap_old (heap_old HP.out)) | exact heap_old (heap_old (heap_old (heap_old HP.out))) | exact heap_old (heap_old (heap_old (heap_old (heap_old HP.out)))) | exact heap_old (heap_old (heap_old (heap_old (heap_old (heap_old HP.out)))))) (HS.out.keep (by repeat (first | exact grown_refl _ _ | refine grown_alloc ?_ _ | refine grown_drewN ?_ _ | refine grown_drew ?_))) HB.out Hbx.out Hbn.out Hbw.out Hbt.out hl).mono ?_
  rintro e w1 ⟨rfl, post⟩
  have hg1 := box_grown post.1 (show (World.heap _)[w.heap.size]? = some (.cells #[.int .i64 0, .int .i64 0, .int .i64 0, .int .i64 0] 44 (0, 0)) from heap_new (by simp)) (by omega)
  obtain ⟨⟨d0, d1, d2, d3⟩, ⟨g0, g1, g2, g3⟩, hz⟩ := box4 hg1
  have POST := Lib.hid post
  clear post
  generalize (putS (base + linkI node) d.p, K.put (.link k d node)) = r at *
  obtain ⟨⟨r0, r1, r2, r3⟩, kk⟩ := r
  simp only [WantS.val]
  go_wp2
  exact bodyPost_ret (results_cell_row rfl _ _ _ _ _ _ _ rfl (heap_set (heap_set (heap_set (heap_set hg1)))) Try.underlying44 rfl infoWant) rfl (close_step (g := w.heap.size) (M := []) (by repeat (first | exact grown_refl _ _ | refine grown_alloc ?_ _ | refine grown_drewN ?_ _ | refine grown_drew ?_)) hlt (by omega) (by simp) (fun x hx => nomatch hx) ⟨rfl, POST.out⟩ rfl)

set_option maxRecDepth 100000 in
set_option maxHeartbeats 1000000 in
theorem next_put_link (w : World) (p : Nat) (base most : Int) (B : List Ent) (v : Int) (k node : Int) (d : WayD) (bx bw bn bt : Nat) (h : Lies w p base most (.func (.func 79) #[] #[.pointer (some ⟨bt, 0, none⟩)])) (hs : Store w p B) (hb : inB base most) (hbx : XB B p bx) (hbw : WB B d bw) (hbn : VB B node bn) (hbt : ⟨bt, #[.func (.func 58) #[] #[.pointer (some ⟨bx, 0, none⟩), .pointer (some ⟨bw, 0, none⟩), .pointer (some ⟨bn, 0, none⟩)]], 83⟩ ∈ B) (hc : cellOk d.cell) :
    Calls Try.prog 22 #[.pointer (some ⟨p, 0, none⟩), .int .i64 v] w (StepPost p base most B (goK base most (.put (.link k d node)) v) w) := by
  have Hbx := Lib.hid hbx
  have Hbw := Lib.hid hbw
  have Hbn := Lib.hid hbn
  have Hbt := Lib.hid hbt
  have HS := Lib.hid hs
  have HP := Lib.hid h
  have HB := Lib.hid hb
  obtain ⟨⟨c0, c1, c2⟩, f2, hlt⟩ := lies3 h
  clear h hs hb hbx hbw hbn hbt
  have hgo : goK base most (.put (.link k d node)) v = (putS (base + d.cell) node, K.put .fin) := rfl
  rw [hgo]
  clear hgo
  go_enter Try.func22, Try.ntmps22
  go_wp2_with fail
  refine (w1_link _ p base most (.func (.func 79) #[] #[.pointer (some ⟨bt, 0, none⟩)]) B v node d bx bw bn bt (by first | exact HP.out | exact heap_old HP.out | exact heap_old (heap_old HP.out) | exact heap_old (heap_old (heap_old HP.out)) | exact heap_old (heap_old (heap_old (heap_old HP.out))) | exact heap_old (heap_old (heap_old (heap_old (heap_old HP.out)))) | exact heap_old (heap_old (heap_old (heap_old (heap_old (heap_old HP.out)))))) (HS.out.keep (by repeat (first | exact grown_refl _ _ | refine grown_alloc ?_ _ | refine grown_drewN ?_ _ | refine grown_drew ?_))) HB.out Hbx.out Hbw.out Hbn.out Hbt.out hc).mono ?_
  rintro e w1 ⟨rfl, post⟩
  have hg1 := box_grown post.1 (show (World.heap _)[w.heap.size]? = some (.cells #[.int .i64 0, .int .i64 0, .int .i64 0, .int .i64 0] 44 (0, 0)) from heap_new (by simp)) (by omega)
  obtain ⟨⟨d0, d1, d2, d3⟩, ⟨g0, g1, g2, g3⟩, hz⟩ := box4 hg1
  have POST := Lib.hid post
  clear post
  generalize (putS (base + d.cell) node, K.put .fin) = r at *
  obtain ⟨⟨r0, r1, r2, r3⟩, kk⟩ := r
  simp only [WantS.val]
  go_wp2
  exact bodyPost_ret (results_cell_row rfl _ _ _ _ _ _ _ rfl (heap_set (heap_set (heap_set (heap_set hg1)))) Try.underlying44 rfl infoWant) rfl (close_step (g := w.heap.size) (M := []) (by repeat (first | exact grown_refl _ _ | refine grown_alloc ?_ _ | refine grown_drewN ?_ _ | refine grown_drew ?_)) hlt (by omega) (by simp) (fun x hx => nomatch hx) ⟨rfl, POST.out⟩ rfl)

set_option maxRecDepth 100000 in
set_option maxHeartbeats 1000000 in
theorem next_put_fin (w : World) (p : Nat) (base most : Int) (B : List Ent) (v : Int)  (bx bt : Nat) (h : Lies w p base most (.func (.func 79) #[] #[.pointer (some ⟨bt, 0, none⟩)])) (hs : Store w p B) (hb : inB base most) (hbx : XB B p bx) (hbt : ⟨bt, #[.func (.func 59) #[] #[.pointer (some ⟨bx, 0, none⟩)]], 83⟩ ∈ B) :
    Calls Try.prog 22 #[.pointer (some ⟨p, 0, none⟩), .int .i64 v] w (StepPost p base most B (goK base most (.put .fin) v) w) := by
  have Hbx := Lib.hid hbx
  have Hbt := Lib.hid hbt
  have HS := Lib.hid hs
  have HP := Lib.hid h
  have HB := Lib.hid hb
  obtain ⟨⟨c0, c1, c2⟩, f2, hlt⟩ := lies3 h
  clear h hs hb hbx hbt
  have hgo : goK base most (.put .fin) v = (endK 0 0) := rfl
  rw [hgo]
  clear hgo
  go_enter Try.func22, Try.ntmps22
  go_wp2_with fail
  refine (w1_fin _ p base most (.func (.func 79) #[] #[.pointer (some ⟨bt, 0, none⟩)]) B v  bx bt (by first | exact HP.out | exact heap_old HP.out | exact heap_old (heap_old HP.out) | exact heap_old (heap_old (heap_old HP.out)) | exact heap_old (heap_old (heap_old (heap_old HP.out))) | exact heap_old (heap_old (heap_old (heap_old (heap_old HP.out)))) | exact heap_old (heap_old (heap_old (heap_old (heap_old (heap_old HP.out)))))) (HS.out.keep (by repeat (first | exact grown_refl _ _ | refine grown_alloc ?_ _ | refine grown_drewN ?_ _ | refine grown_drew ?_))) HB.out Hbx.out Hbt.out ).mono ?_
  rintro e w1 ⟨rfl, post⟩
  have hg1 := box_grown post.1 (show (World.heap _)[w.heap.size]? = some (.cells #[.int .i64 0, .int .i64 0, .int .i64 0, .int .i64 0] 44 (0, 0)) from heap_new (by simp)) (by omega)
  obtain ⟨⟨d0, d1, d2, d3⟩, ⟨g0, g1, g2, g3⟩, hz⟩ := box4 hg1
  have POST := Lib.hid post
  clear post
  generalize (endK 0 0) = r at *
  obtain ⟨⟨r0, r1, r2, r3⟩, kk⟩ := r
  simp only [WantS.val]
  go_wp2
  exact bodyPost_ret (results_cell_row rfl _ _ _ _ _ _ _ rfl (heap_set (heap_set (heap_set (heap_set hg1)))) Try.underlying44 rfl infoWant) rfl (close_step (g := w.heap.size) (M := []) (by repeat (first | exact grown_refl _ _ | refine grown_alloc ?_ _ | refine grown_drewN ?_ _ | refine grown_drew ?_)) hlt (by omega) (by simp) (fun x hx => nomatch hx) ⟨rfl, POST.out⟩ rfl)

set_option maxRecDepth 100000 in
set_option maxHeartbeats 1000000 in
theorem next_put_delW (w : World) (p : Nat) (base most : Int) (B : List Ent) (v : Int) (d : WayD) (bx bw bt : Nat) (h : Lies w p base most (.func (.func 79) #[] #[.pointer (some ⟨bt, 0, none⟩)])) (hs : Store w p B) (hb : inB base most) (hbx : XB B p bx) (hbw : WB B d bw) (hbt : ⟨bt, #[.func (.func 66) #[] #[.pointer (some ⟨bx, 0, none⟩), .pointer (some ⟨bw, 0, none⟩)]], 83⟩ ∈ B) :
    Calls Try.prog 22 #[.pointer (some ⟨p, 0, none⟩), .int .i64 v] w (StepPost p base most B (goK base most (.put (.delW d)) v) w) := by
  have Hbx := Lib.hid hbx
  have Hbw := Lib.hid hbw
  have Hbt := Lib.hid hbt
  have HS := Lib.hid hs
  have HP := Lib.hid h
  have HB := Lib.hid hb
  obtain ⟨⟨c0, c1, c2⟩, f2, hlt⟩ := lies3 h
  clear h hs hb hbx hbw hbt
  have hgo : goK base most (.put (.delW d)) v = (readS (base + 1), K.delF d) := rfl
  rw [hgo]
  clear hgo
  go_enter Try.func22, Try.ntmps22
  go_wp2_with fail
  refine (w1_delW _ p base most (.func (.func 79) #[] #[.pointer (some ⟨bt, 0, none⟩)]) B v d bx bw bt (by first | exact HP.out | exact heap_old HP.out | exact heap_old (heap_old HP.out) | exact heap_old (heap_old (heap_old HP.out)) | exact heap_old (heap_old (heap_old (heap_old HP.out))) | exact heap_old (heap_old (heap_old (heap_old (heap_old HP.out)))) | exact heap_old (heap_old (heap_old (heap_old (heap_old (heap_old HP.out)))))) (HS.out.keep (by repeat (first | exact grown_refl _ _ | refine grown_alloc ?_ _ | refine grown_drewN ?_ _ | refine grown_drew ?_))) HB.out Hbx.out Hbw.out Hbt.out ).mono ?_
  rintro e w1 ⟨rfl, post⟩
  have hg1 := box_grown post.1 (show (World.heap _)[w.heap.size]? = some (.cells #[.int .i64 0, .int .i64 0, .int .i64 0, .int .i64 0] 44 (0, 0)) from heap_new (by simp)) (by omega)
  obtain ⟨⟨d0, d1, d2, d3⟩, ⟨g0, g1, g2, g3⟩, hz⟩ := box4 hg1
  have POST := Lib.hid post
  clear post
  generalize (readS (base + 1), K.delF d) = r at *
  obtain ⟨⟨r0, r1, r2, r3⟩, kk⟩ := r
  simp only [WantS.val]
  go_wp2
  exact bodyPost_ret (results_cell_row rfl _ _ _ _ _ _ _ rfl (heap_set (heap_set (heap_set (heap_set hg1)))) Try.underlying44 rfl infoWant) rfl (close_step (g := w.heap.size) (M := []) (by repeat (first | exact grown_refl _ _ | refine grown_alloc ?_ _ | refine grown_drewN ?_ _ | refine grown_drew ?_)) hlt (by omega) (by simp) (fun x hx => nomatch hx) ⟨rfl, POST.out⟩ rfl)

set_option maxRecDepth 100000 in
set_option maxHeartbeats 1000000 in
theorem next_put_delL (w : World) (p : Nat) (base most : Int) (B : List Ent) (v : Int) (d : WayD) (bx bw bt : Nat) (h : Lies w p base most (.func (.func 79) #[] #[.pointer (some ⟨bt, 0, none⟩)])) (hs : Store w p B) (hb : inB base most) (hbx : XB B p bx) (hbw : WB B d bw) (hbt : ⟨bt, #[.func (.func 68) #[] #[.pointer (some ⟨bx, 0, none⟩), .pointer (some ⟨bw, 0, none⟩)]], 83⟩ ∈ B) :
    Calls Try.prog 22 #[.pointer (some ⟨p, 0, none⟩), .int .i64 v] w (StepPost p base most B (goK base most (.put (.delL d)) v) w) := by
  have Hbx := Lib.hid hbx
  have Hbw := Lib.hid hbw
  have Hbt := Lib.hid hbt
  have HS := Lib.hid hs
  have HP := Lib.hid h
  have HB := Lib.hid hb
  obtain ⟨⟨c0, c1, c2⟩, f2, hlt⟩ := lies3 h
  clear h hs hb hbx hbw hbt
  have hgo : goK base most (.put (.delL d)) v = (putS (base + 1) d.p, K.put .delFin) := rfl
  rw [hgo]
  clear hgo
  go_enter Try.func22, Try.ntmps22
  go_wp2_with fail
  refine (w1_delL _ p base most (.func (.func 79) #[] #[.pointer (some ⟨bt, 0, none⟩)]) B v d bx bw bt (by first | exact HP.out | exact heap_old HP.out | exact heap_old (heap_old HP.out) | exact heap_old (heap_old (heap_old HP.out)) | exact heap_old (heap_old (heap_old (heap_old HP.out))) | exact heap_old (heap_old (heap_old (heap_old (heap_old HP.out)))) | exact heap_old (heap_old (heap_old (heap_old (heap_old (heap_old HP.out)))))) (HS.out.keep (by repeat (first | exact grown_refl _ _ | refine grown_alloc ?_ _ | refine grown_drewN ?_ _ | refine grown_drew ?_))) HB.out Hbx.out Hbw.out Hbt.out ).mono ?_
  rintro e w1 ⟨rfl, post⟩
  have hg1 := box_grown post.1 (show (World.heap _)[w.heap.size]? = some (.cells #[.int .i64 0, .int .i64 0, .int .i64 0, .int .i64 0] 44 (0, 0)) from heap_new (by simp)) (by omega)
  obtain ⟨⟨d0, d1, d2, d3⟩, ⟨g0, g1, g2, g3⟩, hz⟩ := box4 hg1
  have POST := Lib.hid post
  clear post
  generalize (putS (base + 1) d.p, K.put .delFin) = r at *
  obtain ⟨⟨r0, r1, r2, r3⟩, kk⟩ := r
  simp only [WantS.val]
  go_wp2
  exact bodyPost_ret (results_cell_row rfl _ _ _ _ _ _ _ rfl (heap_set (heap_set (heap_set (heap_set hg1)))) Try.underlying44 rfl infoWant) rfl (close_step (g := w.heap.size) (M := []) (by repeat (first | exact grown_refl _ _ | refine grown_alloc ?_ _ | refine grown_drewN ?_ _ | refine grown_drew ?_)) hlt (by omega) (by simp) (fun x hx => nomatch hx) ⟨rfl, POST.out⟩ rfl)

set_option maxRecDepth 100000 in
set_option maxHeartbeats 1000000 in
theorem next_put_delFin (w : World) (p : Nat) (base most : Int) (B : List Ent) (v : Int)  (bx bt : Nat) (h : Lies w p base most (.func (.func 79) #[] #[.pointer (some ⟨bt, 0, none⟩)])) (hs : Store w p B) (hb : inB base most) (hbx : XB B p bx) (hbt : ⟨bt, #[.func (.func 69) #[] #[.pointer (some ⟨bx, 0, none⟩)]], 83⟩ ∈ B) :
    Calls Try.prog 22 #[.pointer (some ⟨p, 0, none⟩), .int .i64 v] w (StepPost p base most B (goK base most (.put .delFin) v) w) := by
  have Hbx := Lib.hid hbx
  have Hbt := Lib.hid hbt
  have HS := Lib.hid hs
  have HP := Lib.hid h
  have HB := Lib.hid hb
  obtain ⟨⟨c0, c1, c2⟩, f2, hlt⟩ := lies3 h
  clear h hs hb hbx hbt
  have hgo : goK base most (.put .delFin) v = (endK 0 0) := rfl
  rw [hgo]
  clear hgo
  go_enter Try.func22, Try.ntmps22
  go_wp2_with fail
  refine (w1_delFin _ p base most (.func (.func 79) #[] #[.pointer (some ⟨bt, 0, none⟩)]) B v  bx bt (by first | exact HP.out | exact heap_old HP.out | exact heap_old (heap_old HP.out) | exact heap_old (heap_old (heap_old HP.out)) | exact heap_old (heap_old (heap_old (heap_old HP.out))) | exact heap_old (heap_old (heap_old (heap_old (heap_old HP.out)))) | exact heap_old (heap_old (heap_old (heap_old (heap_old (heap_old HP.out)))))) (HS.out.keep (by repeat (first | exact grown_refl _ _ | refine grown_alloc ?_ _ | refine grown_drewN ?_ _ | refine grown_drew ?_))) HB.out Hbx.out Hbt.out ).mono ?_
  rintro e w1 ⟨rfl, post⟩
  have hg1 := box_grown post.1 (show (World.heap _)[w.heap.size]? = some (.cells #[.int .i64 0, .int .i64 0, .int .i64 0, .int .i64 0] 44 (0, 0)) from heap_new (by simp)) (by omega)
  obtain ⟨⟨d0, d1, d2, d3⟩, ⟨g0, g1, g2, g3⟩, hz⟩ := box4 hg1
  have POST := Lib.hid post
  clear post
  generalize (endK 0 0) = r at *
  obtain ⟨⟨r0, r1, r2, r3⟩, kk⟩ := r
  simp only [WantS.val]
  go_wp2
  exact bodyPost_ret (results_cell_row rfl _ _ _ _ _ _ _ rfl (heap_set (heap_set (heap_set (heap_set hg1)))) Try.underlying44 rfl infoWant) rfl (close_step (g := w.heap.size) (M := []) (by repeat (first | exact grown_refl _ _ | refine grown_alloc ?_ _ | refine grown_drewN ?_ _ | refine grown_drew ?_)) hlt (by omega) (by simp) (fun x hx => nomatch hx) ⟨rfl, POST.out⟩ rfl)

set_option maxRecDepth 100000 in
set_option maxHeartbeats 1000000 in
theorem next_done (w : World) (p : Nat) (base most : Int) (B : List Ent) (v : Int) (x : WantS) (bw : Nat) (h : Lies w p base most (.func (.func 70) #[] #[.pointer (some ⟨bw, 0, none⟩)])) (hs : Store w p B) (hb : inB base most) (hw : ⟨bw, #[.int .i64 x.kind, .int .i64 x.cell, .int .i64 x.value, .int .i64 x.code], 44⟩ ∈ B) :
    Calls Try.prog 22 #[.pointer (some ⟨p, 0, none⟩), .int .i64 v] w (StepPost p base most B (goK base most (.done x) v) w) := by
  have HS := Lib.hid hs
  have HP := Lib.hid h
  have HB := Lib.hid hb
  obtain ⟨⟨c0, c1, c2⟩, f2, hlt⟩ := lies3 h
  clear h hs hb
  have hgo : goK base most (.done x) v = (x, K.done x) := rfl
  rw [hgo]
  clear hgo
  go_enter Try.func22, Try.ntmps22
  go_wp2_with fail
  refine (done1_step _ p base most _ B v x bw (by first | exact HP.out | exact heap_old HP.out | exact heap_old (heap_old HP.out) | exact heap_old (heap_old (heap_old HP.out)) | exact heap_old (heap_old (heap_old (heap_old HP.out))) | exact heap_old (heap_old (heap_old (heap_old (heap_old HP.out)))) | exact heap_old (heap_old (heap_old (heap_old (heap_old (heap_old HP.out)))))) (HS.out.keep (by repeat (first | exact grown_refl _ _ | refine grown_alloc ?_ _ | refine grown_drewN ?_ _ | refine grown_drew ?_))) hw ⟨bw, hw, rfl⟩).mono ?_
  rintro e w1 ⟨rfl, post⟩
  have hg1 := box_grown post.1 (show (World.heap _)[w.heap.size]? = some (.cells #[.int .i64 0, .int .i64 0, .int .i64 0, .int .i64 0] 44 (0, 0)) from heap_new (by simp)) (by omega)
  obtain ⟨⟨d0, d1, d2, d3⟩, ⟨g0, g1, g2, g3⟩, hz⟩ := box4 hg1
  have POST := Lib.hid post
  clear post
  generalize (x, K.done x) = r at *
  obtain ⟨⟨r0, r1, r2, r3⟩, kk⟩ := r
  simp only [WantS.val]
  go_wp2
  exact bodyPost_ret (results_cell_row rfl _ _ _ _ _ _ _ rfl (heap_set (heap_set (heap_set (heap_set hg1)))) Try.underlying44 rfl infoWant) rfl (close_step (g := w.heap.size) (M := []) (by repeat (first | exact grown_refl _ _ | refine grown_alloc ?_ _ | refine grown_drewN ?_ _ | refine grown_drew ?_)) hlt (by omega) (by simp) (fun x hx => nomatch hx) ⟨rfl, POST.out⟩ rfl)

end Go.Proofs.Ytihlbhlagpmbjaa
