/- The chain's machine: the contracts of its closures (printed by gen_mach18.py). -/
import Derived.Test.YtihlbhlagpmbjaaMachC18d
namespace Go.Proofs.Ytihlbhlagpmbjaa
open Go.RowKit

set_option maxRecDepth 100000 in
set_option maxHeartbeats 3000000 in
theorem w1_lays1 (w : World) (p : Nat) (base most : Int) (nx : Value) (B : List Ent) (v : Int) (k f : Int) (d : WayD) (s3 : Nat) (bl s1 s2 bf bt : Nat) (h : Lies w p base most nx) (hs : Store w p B) (hb : inB base most) (hbl : ⟨bl, #[.func (.func 55) #[] #[.pointer (some ⟨s1, 0, none⟩), .pointer (some ⟨s2, 0, none⟩), .pointer (some ⟨s3, 0, none⟩)]], 45⟩ ∈ B) (hs1 : XB B p s1) (hs2 : VB B k s2) (hbf : VB B f bf) (hbt : ⟨bt, #[.func (.func 62) #[] #[.pointer (some ⟨bl, 0, none⟩), .pointer (some ⟨bf, 0, none⟩)]], 83⟩ ∈ B) (hs3 : WB B d s3) (hl : leadsP most f) :
    Calls Try.prog 79 #[.int .i64 v, .pointer (some ⟨bt, 0, none⟩)] w (StepPost p base most B (laysK base k d f) w) := by
  obtain ⟨⟨c0, c1, c2⟩, f2, hlt⟩ := lies3 h
  have HP := Lib.hid h
  have HB := Lib.hid hb
  obtain ⟨hb0, hb1, hm0, hm1⟩ := hb
  obtain ⟨bl0, bll, bln⟩ := box_in hs hbl
  have Hbl := Lib.hid hbl
  obtain ⟨s10, s1l, s1n⟩ := box_in hs hs1
  have Hs1 := Lib.hid hs1
  obtain ⟨s20, s2l, s2n⟩ := box_in hs hs2
  have Hs2 := Lib.hid hs2
  obtain ⟨bf0, bfl, bfn⟩ := box_in hs hbf
  have Hbf := Lib.hid hbf
  obtain ⟨bt0, btl, btn⟩ := box_in hs hbt
  have Hbt := Lib.hid hbt
  have HS := Lib.hid hs
  clear h hs hbl hs1 hs2 hbf hbt
  go_enter Try.func79, Try.ntmps79
  go_wp2_with fail
  refine (lays1_step _ p base most nx B k f d s3 bl s1 s2 bf (by first | exact HP.out | exact heap_old HP.out | exact heap_old (heap_old HP.out) | exact heap_old (heap_old (heap_old HP.out)) | exact heap_old (heap_old (heap_old (heap_old HP.out))) | exact heap_old (heap_old (heap_old (heap_old (heap_old HP.out)))) | exact heap_old (heap_old (heap_old (heap_old (heap_old (heap_old HP.out)))))) (HS.out.keep (by repeat (first | exact grown_refl _ _ | refine grown_alloc ?_ _ | refine grown_drewN ?_ _ | refine grown_drew ?_))) HB.out Hbl.out Hs1.out Hs2.out Hbf.out hs3 hl).mono ?_
  rintro e w1 ⟨rfl, post⟩
  have hg1 := box_grown post.1 (show (World.heap _)[w.heap.size]? = some (.cells #[.int .i64 0, .int .i64 0, .int .i64 0, .int .i64 0] 44 (0, 0)) from heap_new (by simp)) (by omega)
  obtain ⟨⟨d0, d1, d2, d3⟩, ⟨g0, g1, g2, g3⟩, hz⟩ := box4 hg1
  have POST := Lib.hid post
  clear post
  generalize (laysK base k d f) = r at *
  obtain ⟨⟨r0, r1, r2, r3⟩, kk⟩ := r
  simp only [WantS.val]
  go_wp2
  exact bodyPost_ret (results_cell_row rfl _ _ _ _ _ _ _ rfl (heap_set (heap_set (heap_set (heap_set hg1)))) Try.underlying44 rfl infoWant) rfl (close_step (g := w.heap.size) (M := []) (by repeat (first | exact grown_refl _ _ | refine grown_alloc ?_ _ | refine grown_drewN ?_ _ | refine grown_drew ?_)) hlt (by omega) (by simp) (fun x hx => nomatch hx) ⟨rfl, POST.out⟩ rfl)

set_option maxRecDepth 100000 in
set_option maxHeartbeats 3000000 in
theorem w1_lays2 (w : World) (p : Nat) (base most : Int) (nx : Value) (B : List Ent) (v : Int) (k f : Int) (d : WayD) (s3 : Nat) (bl s1 s2 bf bt : Nat) (h : Lies w p base most nx) (hs : Store w p B) (hb : inB base most) (hbl : ⟨bl, #[.func (.func 55) #[] #[.pointer (some ⟨s1, 0, none⟩), .pointer (some ⟨s2, 0, none⟩), .pointer (some ⟨s3, 0, none⟩)]], 45⟩ ∈ B) (hs1 : XB B p s1) (hs2 : VB B k s2) (hbf : VB B f bf) (hbt : ⟨bt, #[.func (.func 64) #[] #[.pointer (some ⟨bl, 0, none⟩), .pointer (some ⟨bf, 0, none⟩)]], 83⟩ ∈ B) (hs3 : WB B d s3) (hf : 0 ≤ f ∧ f < most) :
    Calls Try.prog 79 #[.int .i64 v, .pointer (some ⟨bt, 0, none⟩)] w (StepPost p base most B (laysK base k d (f + 1)) w) := by
  obtain ⟨⟨c0, c1, c2⟩, f2, hlt⟩ := lies3 h
  have HP := Lib.hid h
  have HB := Lib.hid hb
  obtain ⟨hb0, hb1, hm0, hm1⟩ := hb
  obtain ⟨bl0, bll, bln⟩ := box_in hs hbl
  have Hbl := Lib.hid hbl
  obtain ⟨s10, s1l, s1n⟩ := box_in hs hs1
  have Hs1 := Lib.hid hs1
  obtain ⟨s20, s2l, s2n⟩ := box_in hs hs2
  have Hs2 := Lib.hid hs2
  obtain ⟨bf0, bfl, bfn⟩ := box_in hs hbf
  have Hbf := Lib.hid hbf
  obtain ⟨bt0, btl, btn⟩ := box_in hs hbt
  have Hbt := Lib.hid hbt
  have HS := Lib.hid hs
  clear h hs hbl hs1 hs2 hbf hbt
  go_enter Try.func79, Try.ntmps79
  go_wp2_with fail
  refine (lays2_step _ p base most nx B k f d s3 bl s1 s2 bf (by first | exact HP.out | exact heap_old HP.out | exact heap_old (heap_old HP.out) | exact heap_old (heap_old (heap_old HP.out)) | exact heap_old (heap_old (heap_old (heap_old HP.out))) | exact heap_old (heap_old (heap_old (heap_old (heap_old HP.out)))) | exact heap_old (heap_old (heap_old (heap_old (heap_old (heap_old HP.out)))))) (HS.out.keep (by repeat (first | exact grown_refl _ _ | refine grown_alloc ?_ _ | refine grown_drewN ?_ _ | refine grown_drew ?_))) HB.out Hbl.out Hs1.out Hs2.out Hbf.out hs3 hf).mono ?_
  rintro e w1 ⟨rfl, post⟩
  have hg1 := box_grown post.1 (show (World.heap _)[w.heap.size]? = some (.cells #[.int .i64 0, .int .i64 0, .int .i64 0, .int .i64 0] 44 (0, 0)) from heap_new (by simp)) (by omega)
  obtain ⟨⟨d0, d1, d2, d3⟩, ⟨g0, g1, g2, g3⟩, hz⟩ := box4 hg1
  have POST := Lib.hid post
  clear post
  generalize (laysK base k d (f + 1)) = r at *
  obtain ⟨⟨r0, r1, r2, r3⟩, kk⟩ := r
  simp only [WantS.val]
  go_wp2
  exact bodyPost_ret (results_cell_row rfl _ _ _ _ _ _ _ rfl (heap_set (heap_set (heap_set (heap_set hg1)))) Try.underlying44 rfl infoWant) rfl (close_step (g := w.heap.size) (M := []) (by repeat (first | exact grown_refl _ _ | refine grown_alloc ?_ _ | refine grown_drewN ?_ _ | refine grown_drew ?_)) hlt (by omega) (by simp) (fun x hx => nomatch hx) ⟨rfl, POST.out⟩ rfl)

set_option maxRecDepth 100000 in
set_option maxHeartbeats 3000000 in
theorem w1_key (w : World) (p : Nat) (base most : Int) (nx : Value) (B : List Ent) (v : Int) (k node : Int) (d : WayD) (bx bn bw bt : Nat) (h : Lies w p base most nx) (hs : Store w p B) (hb : inB base most) (hbx : XB B p bx) (hbn : VB B node bn) (hbw : WB B d bw) (hbt : ⟨bt, #[.func (.func 57) #[] #[.pointer (some ⟨bx, 0, none⟩), .pointer (some ⟨bn, 0, none⟩), .pointer (some ⟨bw, 0, none⟩)]], 83⟩ ∈ B) (hl : leadsP most node) :
    Calls Try.prog 79 #[.int .i64 v, .pointer (some ⟨bt, 0, none⟩)] w (StepPost p base most B (putS (base + linkI node) d.p, K.put (.link k d node)) w) := by
  obtain ⟨⟨c0, c1, c2⟩, f2, hlt⟩ := lies3 h
  have HP := Lib.hid h
  have HB := Lib.hid hb
  obtain ⟨hb0, hb1, hm0, hm1⟩ := hb
  obtain ⟨bx0, bxl, bxn⟩ := box_in hs hbx
  have Hbx := Lib.hid hbx
  obtain ⟨bn0, bnl, bnn⟩ := box_in hs hbn
  have Hbn := Lib.hid hbn
  obtain ⟨⟨bw0, bw1, bw2, bw3, bw4⟩, bwl, bwn⟩ := way_in hs hbw
  have Hbw := Lib.hid hbw
  obtain ⟨bt0, btl, btn⟩ := box_in hs hbt
  have Hbt := Lib.hid hbt
  have HS := Lib.hid hs
  clear h hs hbx hbn hbw hbt
  go_enter Try.func79, Try.ntmps79
  go_wp2_with fail
  refine (tkey_step _ p base most nx B k node d bx bn bw (by first | exact HP.out | exact heap_old HP.out | exact heap_old (heap_old HP.out) | exact heap_old (heap_old (heap_old HP.out)) | exact heap_old (heap_old (heap_old (heap_old HP.out))) | exact heap_old (heap_old (heap_old (heap_old (heap_old HP.out)))) | exact heap_old (heap_old (heap_old (heap_old (heap_old (heap_old HP.out)))))) (HS.out.keep (by repeat (first | exact grown_refl _ _ | refine grown_alloc ?_ _ | refine grown_drewN ?_ _ | refine grown_drew ?_))) HB.out Hbx.out Hbn.out Hbw.out hl).mono ?_
  rintro e w1 ⟨rfl, post⟩
  have hg1 := box_grown post.1 (show (World.heap _)[w.heap.size]? = some (.cells #[.int .i64 0, .int .i64 0, .int .i64 0, .int .i64 0] 44 (0, 0)) from heap_new (by simp)) (by omega)
  obtain ⟨⟨d0, d1, d2, d3⟩, ⟨g0, g1, g2, g3⟩, hz⟩ := box4 hg1
  have POST := Lib.hid post
  clear post
  generalize (putS (base + linkI node) d.p, K.put (.link k d node)) = r at *
  obtain ⟨⟨r0, r1, r2, r3⟩, kk⟩ := r
  simp only [WantS.val]
  go_wp2
  exact bodyPost_ret (results_cell_row rfl _ _ _ _ _ _ _ rfl (heap_set (heap_set (heap_set (heap_set hg1)))) Try.underlying44 rfl infoWant) rfl (close_step (g := w.heap.size) (M := []) (by repeat (first | exact grown_refl _ _ | refine grown_alloc ?_ _ | refine grown_drewN ?_ _ | refine grown_drew ?_)) hlt (by omega) (by simp) (fun x hx => nomatch hx) ⟨rfl, POST.out⟩ rfl)

set_option maxRecDepth 100000 in
set_option maxHeartbeats 3000000 in
theorem w1_link (w : World) (p : Nat) (base most : Int) (nx : Value) (B : List Ent) (v : Int) (node : Int) (d : WayD) (bx bw bn bt : Nat) (h : Lies w p base most nx) (hs : Store w p B) (hb : inB base most) (hbx : XB B p bx) (hbw : WB B d bw) (hbn : VB B node bn) (hbt : ⟨bt, #[.func (.func 58) #[] #[.pointer (some ⟨bx, 0, none⟩), .pointer (some ⟨bw, 0, none⟩), .pointer (some ⟨bn, 0, none⟩)]], 83⟩ ∈ B) (hc : cellOk d.cell) :
    Calls Try.prog 79 #[.int .i64 v, .pointer (some ⟨bt, 0, none⟩)] w (StepPost p base most B (putS (base + d.cell) node, K.put .fin) w) := by
  obtain ⟨⟨c0, c1, c2⟩, f2, hlt⟩ := lies3 h
  have HP := Lib.hid h
  have HB := Lib.hid hb
  obtain ⟨hb0, hb1, hm0, hm1⟩ := hb
  obtain ⟨bx0, bxl, bxn⟩ := box_in hs hbx
  have Hbx := Lib.hid hbx
  obtain ⟨⟨bw0, bw1, bw2, bw3, bw4⟩, bwl, bwn⟩ := way_in hs hbw
  have Hbw := Lib.hid hbw
  obtain ⟨bn0, bnl, bnn⟩ := box_in hs hbn
  have Hbn := Lib.hid hbn
  obtain ⟨bt0, btl, btn⟩ := box_in hs hbt
  have Hbt := Lib.hid hbt
  have HS := Lib.hid hs
  clear h hs hbx hbw hbn hbt
  go_enter Try.func79, Try.ntmps79
  go_wp2_with fail
  refine (tlink_step _ p base most nx B node d bx bw bn (by first | exact HP.out | exact heap_old HP.out | exact heap_old (heap_old HP.out) | exact heap_old (heap_old (heap_old HP.out)) | exact heap_old (heap_old (heap_old (heap_old HP.out))) | exact heap_old (heap_old (heap_old (heap_old (heap_old HP.out)))) | exact heap_old (heap_old (heap_old (heap_old (heap_old (heap_old HP.out)))))) (HS.out.keep (by repeat (first | exact grown_refl _ _ | refine grown_alloc ?_ _ | refine grown_drewN ?_ _ | refine grown_drew ?_))) HB.out Hbx.out Hbw.out Hbn.out hc).mono ?_
  rintro e w1 ⟨rfl, post⟩
  have hg1 := box_grown post.1 (show (World.heap _)[w.heap.size]? = some (.cells #[.int .i64 0, .int .i64 0, .int .i64 0, .int .i64 0] 44 (0, 0)) from heap_new (by simp)) (by omega)
  obtain ⟨⟨d0, d1, d2, d3⟩, ⟨g0, g1, g2, g3⟩, hz⟩ := box4 hg1
  have POST := Lib.hid post
  clear post
  generalize (putS (base + d.cell) node, K.put .fin) = r at *
  obtain ⟨⟨r0, r1, r2, r3⟩, kk⟩ := r
  simp only [WantS.val]
  go_wp2
  exact bodyPost_ret (results_cell_row rfl _ _ _ _ _ _ _ rfl (heap_set (heap_set (heap_set (heap_set hg1)))) Try.underlying44 rfl infoWant) rfl (close_step (g := w.heap.size) (M := []) (by repeat (first | exact grown_refl _ _ | refine grown_alloc ?_ _ | refine grown_drewN ?_ _ | refine grown_drew ?_)) hlt (by omega) (by simp) (fun x hx => nomatch hx) ⟨rfl, POST.out⟩ rfl)

set_option maxRecDepth 100000 in
set_option maxHeartbeats 3000000 in
theorem w1_fin (w : World) (p : Nat) (base most : Int) (nx : Value) (B : List Ent) (v : Int)  (bx bt : Nat) (h : Lies w p base most nx) (hs : Store w p B) (hb : inB base most) (hbx : XB B p bx) (hbt : ⟨bt, #[.func (.func 59) #[] #[.pointer (some ⟨bx, 0, none⟩)]], 83⟩ ∈ B) :
    Calls Try.prog 79 #[.int .i64 v, .pointer (some ⟨bt, 0, none⟩)] w (StepPost p base most B (endK 0 0) w) := by
  obtain ⟨⟨c0, c1, c2⟩, f2, hlt⟩ := lies3 h
  have HP := Lib.hid h
  have HB := Lib.hid hb
  obtain ⟨hb0, hb1, hm0, hm1⟩ := hb
  obtain ⟨bx0, bxl, bxn⟩ := box_in hs hbx
  have Hbx := Lib.hid hbx
  obtain ⟨bt0, btl, btn⟩ := box_in hs hbt
  have Hbt := Lib.hid hbt
  have HS := Lib.hid hs
  clear h hs hbx hbt
  go_enter Try.func79, Try.ntmps79
  go_wp2_with fail
  refine (fin_step _ p base most nx B bx (by first | exact HP.out | exact heap_old HP.out | exact heap_old (heap_old HP.out) | exact heap_old (heap_old (heap_old HP.out)) | exact heap_old (heap_old (heap_old (heap_old HP.out))) | exact heap_old (heap_old (heap_old (heap_old (heap_old HP.out)))) | exact heap_old (heap_old (heap_old (heap_old (heap_old (heap_old HP.out)))))) (HS.out.keep (by repeat (first | exact grown_refl _ _ | refine grown_alloc ?_ _ | refine grown_drewN ?_ _ | refine grown_drew ?_))) HB.out Hbx.out).mono ?_
  rintro e w1 ⟨rfl, post⟩
  have hg1 := box_grown post.1 (show (World.heap _)[w.heap.size]? = some (.cells #[.int .i64 0, .int .i64 0, .int .i64 0, .int .i64 0] 44 (0, 0)) from heap_new (by simp)) (by omega)
  obtain ⟨⟨d0, d1, d2, d3⟩, ⟨g0, g1, g2, g3⟩, hz⟩ := box4 hg1
  have POST := Lib.hid post
  clear post
  generalize (endK 0 0) = r at *
  obtain ⟨⟨r0, r1, r2, r3⟩, kk⟩ := r
  simp only [WantS.val]
  go_wp2
  exact bodyPost_ret (results_cell_row rfl _ _ _ _ _ _ _ rfl (heap_set (heap_set (heap_set (heap_set hg1)))) Try.underlying44 rfl infoWant) rfl (close_step (g := w.heap.size) (M := []) (by repeat (first | exact grown_refl _ _ | refine grown_alloc ?_ _ | refine grown_drewN ?_ _ | refine grown_drew ?_)) hlt (by omega) (by simp) (fun x hx => nomatch hx) ⟨rfl, POST.out⟩ rfl)

set_option maxRecDepth 100000 in
set_option maxHeartbeats 3000000 in
theorem w1_delW (w : World) (p : Nat) (base most : Int) (nx : Value) (B : List Ent) (v : Int) (d : WayD) (bx bw bt : Nat) (h : Lies w p base most nx) (hs : Store w p B) (hb : inB base most) (hbx : XB B p bx) (hbw : WB B d bw) (hbt : ⟨bt, #[.func (.func 66) #[] #[.pointer (some ⟨bx, 0, none⟩), .pointer (some ⟨bw, 0, none⟩)]], 83⟩ ∈ B) :
    Calls Try.prog 79 #[.int .i64 v, .pointer (some ⟨bt, 0, none⟩)] w (StepPost p base most B (readS (base + 1), K.delF d) w) := by
  obtain ⟨⟨c0, c1, c2⟩, f2, hlt⟩ := lies3 h
  have HP := Lib.hid h
  have HB := Lib.hid hb
  obtain ⟨hb0, hb1, hm0, hm1⟩ := hb
  obtain ⟨bx0, bxl, bxn⟩ := box_in hs hbx
  have Hbx := Lib.hid hbx
  obtain ⟨⟨bw0, bw1, bw2, bw3, bw4⟩, bwl, bwn⟩ := way_in hs hbw
  have Hbw := Lib.hid hbw
  obtain ⟨bt0, btl, btn⟩ := box_in hs hbt
  have Hbt := Lib.hid hbt
  have HS := Lib.hid hs
  clear h hs hbx hbw hbt
  go_enter Try.func79, Try.ntmps79
  go_wp2_with fail
  refine (delW_step _ p base most nx B d bx bw (by first | exact HP.out | exact heap_old HP.out | exact heap_old (heap_old HP.out) | exact heap_old (heap_old (heap_old HP.out)) | exact heap_old (heap_old (heap_old (heap_old HP.out))) | exact heap_old (heap_old (heap_old (heap_old (heap_old HP.out)))) | exact heap_old (heap_old (heap_old (heap_old (heap_old (heap_old HP.out)))))) (HS.out.keep (by repeat (first | exact grown_refl _ _ | refine grown_alloc ?_ _ | refine grown_drewN ?_ _ | refine grown_drew ?_))) HB.out Hbx.out Hbw.out).mono ?_
  rintro e w1 ⟨rfl, post⟩
  have hg1 := box_grown post.1 (show (World.heap _)[w.heap.size]? = some (.cells #[.int .i64 0, .int .i64 0, .int .i64 0, .int .i64 0] 44 (0, 0)) from heap_new (by simp)) (by omega)
  obtain ⟨⟨d0, d1, d2, d3⟩, ⟨g0, g1, g2, g3⟩, hz⟩ := box4 hg1
  have POST := Lib.hid post
  clear post
  generalize (readS (base + 1), K.delF d) = r at *
  obtain ⟨⟨r0, r1, r2, r3⟩, kk⟩ := r
  simp only [WantS.val]
  go_wp2
  exact bodyPost_ret (results_cell_row rfl _ _ _ _ _ _ _ rfl (heap_set (heap_set (heap_set (heap_set hg1)))) Try.underlying44 rfl infoWant) rfl (close_step (g := w.heap.size) (M := []) (by repeat (first | exact grown_refl _ _ | refine grown_alloc ?_ _ | refine grown_drewN ?_ _ | refine grown_drew ?_)) hlt (by omega) (by simp) (fun x hx => nomatch hx) ⟨rfl, POST.out⟩ rfl)

set_option maxRecDepth 100000 in
set_option maxHeartbeats 3000000 in
theorem w1_delL (w : World) (p : Nat) (base most : Int) (nx : Value) (B : List Ent) (v : Int) (d : WayD) (bx bw bt : Nat) (h : Lies w p base most nx) (hs : Store w p B) (hb : inB base most) (hbx : XB B p bx) (hbw : WB B d bw) (hbt : ⟨bt, #[.func (.func 68) #[] #[.pointer (some ⟨bx, 0, none⟩), .pointer (some ⟨bw, 0, none⟩)]], 83⟩ ∈ B) :
    Calls Try.prog 79 #[.int .i64 v, .pointer (some ⟨bt, 0, none⟩)] w (StepPost p base most B (putS (base + 1) d.p, K.put .delFin) w) := by
  obtain ⟨⟨c0, c1, c2⟩, f2, hlt⟩ := lies3 h
  have HP := Lib.hid h
  have HB := Lib.hid hb
  obtain ⟨hb0, hb1, hm0, hm1⟩ := hb
  obtain ⟨bx0, bxl, bxn⟩ := box_in hs hbx
  have Hbx := Lib.hid hbx
  obtain ⟨⟨bw0, bw1, bw2, bw3, bw4⟩, bwl, bwn⟩ := way_in hs hbw
  have Hbw := Lib.hid hbw
  obtain ⟨bt0, btl, btn⟩ := box_in hs hbt
  have Hbt := Lib.hid hbt
  have HS := Lib.hid hs
  clear h hs hbx hbw hbt
  go_enter Try.func79, Try.ntmps79
  go_wp2_with fail
  refine (delL_step _ p base most nx B d bx bw (by first | exact HP.out | exact heap_old HP.out | exact heap_old (heap_old HP.out) | exact heap_old (heap_old (heap_old HP.out)) | exact heap_old (heap_old (heap_old (heap_old HP.out))) | exact heap_old (heap_old (heap_old (heap_old (heap_old HP.out)))) | exact heap_old (heap_old (heap_old (heap_old (heap_old (heap_old HP.out)))))) (HS.out.keep (by repeat (first | exact grown_refl _ _ | refine grown_alloc ?_ _ | refine grown_drewN ?_ _ | refine grown_drew ?_))) HB.out Hbx.out Hbw.out).mono ?_
  rintro e w1 ⟨rfl, post⟩
  have hg1 := box_grown post.1 (show (World.heap _)[w.heap.size]? = some (.cells #[.int .i64 0, .int .i64 0, .int .i64 0, .int .i64 0] 44 (0, 0)) from heap_new (by simp)) (by omega)
  obtain ⟨⟨d0, d1, d2, d3⟩, ⟨g0, g1, g2, g3⟩, hz⟩ := box4 hg1
  have POST := Lib.hid post
  clear post
  generalize (putS (base + 1) d.p, K.put .delFin) = r at *
  obtain ⟨⟨r0, r1, r2, r3⟩, kk⟩ := r
  simp only [WantS.val]
  go_wp2
  exact bodyPost_ret (results_cell_row rfl _ _ _ _ _ _ _ rfl (heap_set (heap_set (heap_set (heap_set hg1)))) Try.underlying44 rfl infoWant) rfl (close_step (g := w.heap.size) (M := []) (by repeat (first | exact grown_refl _ _ | refine grown_alloc ?_ _ | refine grown_drewN ?_ _ | refine grown_drew ?_)) hlt (by omega) (by simp) (fun x hx => nomatch hx) ⟨rfl, POST.out⟩ rfl)

set_option maxRecDepth 100000 in
set_option maxHeartbeats 3000000 in
theorem w1_delFin (w : World) (p : Nat) (base most : Int) (nx : Value) (B : List Ent) (v : Int)  (bx bt : Nat) (h : Lies w p base most nx) (hs : Store w p B) (hb : inB base most) (hbx : XB B p bx) (hbt : ⟨bt, #[.func (.func 69) #[] #[.pointer (some ⟨bx, 0, none⟩)]], 83⟩ ∈ B) :
    Calls Try.prog 79 #[.int .i64 v, .pointer (some ⟨bt, 0, none⟩)] w (StepPost p base most B (endK 0 0) w) := by
  obtain ⟨⟨c0, c1, c2⟩, f2, hlt⟩ := lies3 h
  have HP := Lib.hid h
  have HB := Lib.hid hb
  obtain ⟨hb0, hb1, hm0, hm1⟩ := hb
  obtain ⟨bx0, bxl, bxn⟩ := box_in hs hbx
  have Hbx := Lib.hid hbx
  obtain ⟨bt0, btl, btn⟩ := box_in hs hbt
  have Hbt := Lib.hid hbt
  have HS := Lib.hid hs
  clear h hs hbx hbt
  go_enter Try.func79, Try.ntmps79
  go_wp2_with fail
  refine (delFin_step _ p base most nx B bx (by first | exact HP.out | exact heap_old HP.out | exact heap_old (heap_old HP.out) | exact heap_old (heap_old (heap_old HP.out)) | exact heap_old (heap_old (heap_old (heap_old HP.out))) | exact heap_old (heap_old (heap_old (heap_old (heap_old HP.out)))) | exact heap_old (heap_old (heap_old (heap_old (heap_old (heap_old HP.out)))))) (HS.out.keep (by repeat (first | exact grown_refl _ _ | refine grown_alloc ?_ _ | refine grown_drewN ?_ _ | refine grown_drew ?_))) HB.out Hbx.out).mono ?_
  rintro e w1 ⟨rfl, post⟩
  have hg1 := box_grown post.1 (show (World.heap _)[w.heap.size]? = some (.cells #[.int .i64 0, .int .i64 0, .int .i64 0, .int .i64 0] 44 (0, 0)) from heap_new (by simp)) (by omega)
  obtain ⟨⟨d0, d1, d2, d3⟩, ⟨g0, g1, g2, g3⟩, hz⟩ := box4 hg1
  have POST := Lib.hid post
  clear post
  generalize (endK 0 0) = r at *
  obtain ⟨⟨r0, r1, r2, r3⟩, kk⟩ := r
  simp only [WantS.val]
  go_wp2
  exact bodyPost_ret (results_cell_row rfl _ _ _ _ _ _ _ rfl (heap_set (heap_set (heap_set (heap_set hg1)))) Try.underlying44 rfl infoWant) rfl (close_step (g := w.heap.size) (M := []) (by repeat (first | exact grown_refl _ _ | refine grown_alloc ?_ _ | refine grown_drewN ?_ _ | refine grown_drew ?_)) hlt (by omega) (by simp) (fun x hx => nomatch hx) ⟨rfl, POST.out⟩ rfl)

theorem done1_step (w : World) (p : Nat) (base most : Int) (nx : Value) (B : List Ent) (v : Int) (x : WantS) (bw : Nat) (h : Lies w p base most nx) (hs : Store w p B) (hw : ⟨bw, #[.int .i64 x.kind, .int .i64 x.cell, .int .i64 x.value, .int .i64 x.code], 44⟩ ∈ B) (hF : FV B p (.done x) nx) :
    Calls Try.prog 70 #[.int .i64 v, .pointer (some ⟨bw, 0, none⟩)] w (StepPost p base most B (x, .done x) w) := by
  have hw2 := (hs _ hw).2
  obtain ⟨⟨c0, c1, c2, c3⟩, -, hlt⟩ := box4 hw2
  have HP := Lib.hid h
  have HF := Lib.hid hF
  clear h hs hw hw2 hF
  go_enter Try.func70, Try.ntmps70
  go_wp2
  exact bodyPost_ret (results_cell_row rfl _ _ _ _ _ _ _ rfl (heap_new (by simp)) Try.underlying44 rfl infoWant) rfl ⟨rfl, grown_alloc (grown_refl _ _) _, nx, [], heap_old HP.out, (fun x hx => nomatch hx), HF.out⟩

end Go.Proofs.Ytihlbhlagpmbjaa
