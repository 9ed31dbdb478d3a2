/- The contract of the reference's Next of layer 18 (printed by gen_ref18.py). -/
import Derived.Test.YtihlbhlagpmbjaaRefG18
namespace Go.Proofs.Ytihlbhlagpmbjaa
open Go.RowKit
theorem reads_drop {w : World} {B b off c k L c' : Nat} {A : Option Addr} {read : List Int} (h : Reads w B (.slice (some ⟨b, off, none⟩) read.length c) read) (h1 : L + k = read.length) (h2 : L ≤ c') (h3 : 0 < L → A = some ⟨b, off + k, none⟩) :
    Reads w B (.slice A L c') (read.drop k) := by
  obtain ⟨g0, g1, a', c'', g2, g3, g4⟩ := h
  injection g2 with e1 e2 e3
  subst e1
  refine ⟨by simp; omega, fun y hy => g1 y (List.mem_of_mem_drop hy), A, c', by simp; omega, by simp; omega, ?_⟩
  rcases Nat.eq_zero_or_pos L with hz | hz
  · exact .inl (List.drop_eq_nil_of_le (by omega))
  · rcases g4 with g4 | ⟨b4, o4, g5, g6, g7⟩
    · rw [g4] at h1; simp at h1; omega
    · injection g5 with g5
      injection g5 with e4 e5 _
      subst e4 e5
      refine .inr ⟨b, off + k, h3 hz, g6, fun i hi => ?_⟩
      have := g7 (k + i) (by simp at hi; omega)
      rw [Nat.add_assoc, this]
      simp [List.getD_eq_getElem?_getD]
/-- What is told behind a way. -/
def longS (base most call x : Int) (X : WayR) (read : List Int) (writes : Int) : WantS :=
  if X.over = false then readS (base + X.cell)
  else if call = 1 then addsS base most x X (read.drop X.reads) writes
  else if call = 4 then delsS base X (read.drop X.reads) writes
  else if call = 8 then nextS base most X (read.drop X.reads)
  else if X.at_ = true then endS 1 0 else endS 0 0
theorem over_some {key most : Int} {read : List Int} (h : (goS key most read).over = true) : read ≠ [] := by
  rintro rfl
  cases h

set_option maxRecDepth 100000 in
set_option maxHeartbeats 2000000 in
theorem ref_near (w : World) (B : Nat) (base most call writes x : Int) (link0 p0 node : Int) (at0 : Bool) (key0 : Int) (reads0 : Nat) (cell0 : Int) (bx ox cx : Nat) (r : Value) (read : List Int) (hr : Reads w B r read) (hB : B ≤ w.heap.size) (hb : inB base most) (hc : call = 1 ∨ call = 4 ∨ call = 6 ∨ call = 8)
    (hbxs : bx < w.heap.size) (_hcx : 1 ≤ cx) (cx0 : w.cell? ⟨bx, ox, none⟩ = some (.int .i64 x)) (hX : goS x most read = ⟨link0, p0, node, at0, key0, reads0, false, cell0⟩) (hcell : cellOk cell0) :
    Calls Try.prog 46 #[.int .i64 base, .int .i64 most, .int .i64 call, .slice (some ⟨bx, ox, none⟩) 1 cx, r, .int .i64 writes] w (Gives (readS (base + cell0)).val w) := by
  have HB := Lib.hid hb
  obtain ⟨hb0, hb1', hm0, hm1⟩ := hb
  have hbxne : bx ≠ w.heap.size := by omega
  have h7 : (call == 7) = false := by rcases hc with rfl | rfl | rfl | rfl <;> rfl
  have h5 : (call == 5) = false := by rcases hc with rfl | rfl | rfl | rfl <;> rfl
  have hgo := Go_calls (w.alloc (.cells #[.int .i64 0, .int .i64 0, .int .i64 0, .int .i64 0] 44)) B x most r read (hr.below ((Below.refl _ _).alloc hB _)) (by simp; omega) hm0 hm1
  rw [hX] at hgo
  simp only [WayR.cells] at hgo
  have HGO := Lib.hid hgo
  have HRD := Lib.hid hr
  obtain ⟨oc0, oc1⟩ := hcell
  obtain ⟨-, -, ar, cr, rfl, -, -⟩ := hr
  clear hgo hX hc
  go_enter Try.func46, Try.ntmps46
  go_wp2_with fail
  refine HGO.out.mono ?_
  rintro e w1 ⟨rfl, hb1⟩
  have HGR := Lib.hid (box_keep hb1 (heap_new (w := w) rfl))
  have BW : Hid (Below w.heap.size w w1) := (below_alloc _ _).trans (hb1.mono (by simp))
  have hz1 : w.heap.size + 1 ≤ w1.heap.size := by have := hb1.size; simpa using this
  have HB1 := Lib.hid hb1
  have cx1 := (BW.out.cell (p := ⟨bx, ox, none⟩) hbxs).trans cx0
  have hbxz : bx ≠ w1.heap.size := by omega
  have hbxy : bx < w1.heap.size := by omega
  go_wp2_with fail
  refine Calls.mono (Read_calls (base + cell0) _) ?_
  rintro e w2 ⟨rfl, hb2⟩
  generalize readS (base + cell0) = X at *
  obtain ⟨X0, X1, X2, X3⟩ := X
  have hg2 := box_keep hb2 (show (World.heap _)[w.heap.size]? = some (.cells #[.int .i64 0, .int .i64 0, .int .i64 0, .int .i64 0] 44 (0, 0)) from heap_old HGR.out)
  obtain ⟨⟨d0, d1, d2, d3⟩, ⟨g0, g1, g2, g3⟩, hz⟩ := box4 hg2
  simp only [WantS.val]
  go_wp2
  exact bodyPost_ret (results_cell_row rfl _ _ _ _ _ _ _ rfl (heap_set (heap_set (heap_set (heap_set hg2)))) Try.underlying44 rfl infoWant) rfl ⟨rfl, close_ref (w := w) (g := w.heap.size) (by first | exact below_alloc_of BW.out _ | exact below_drew_of (below_alloc_of BW.out _) | exact below_drewN_of (below_alloc_of BW.out _) _) (Nat.le_refl _) hb2⟩

set_option maxRecDepth 100000 in
set_option maxHeartbeats 2000000 in
theorem ref_adds (w : World) (B : Nat) (base most call writes x : Int) (link0 p0 node : Int) (at0 : Bool) (key0 : Int) (reads0 : Nat) (cell0 : Int) (bx ox cx : Nat) (r : Value) (read : List Int) (hr : Reads w B r read) (hB : B ≤ w.heap.size) (hb : inB base most) (hc : call = 1 ∨ call = 4 ∨ call = 6 ∨ call = 8)
    (hbxs : bx < w.heap.size) (_hcx : 1 ≤ cx) (cx0 : w.cell? ⟨bx, ox, none⟩ = some (.int .i64 x)) (hX : goS x most read = ⟨link0, p0, node, at0, key0, reads0, true, cell0⟩) (_hlk : cellOk link0) (_hat : at0 = true → leadsP most node) (hrd : reads0 ≤ read.length) (hcl : call = 1) :
    Calls Try.prog 46 #[.int .i64 base, .int .i64 most, .int .i64 call, .slice (some ⟨bx, ox, none⟩) 1 cx, r, .int .i64 writes] w (Gives (addsS base most x ⟨link0, p0, node, at0, key0, reads0, true, cell0⟩ (read.drop reads0) writes).val w) := by
  have HB := Lib.hid hb
  obtain ⟨hb0, hb1', hm0, hm1⟩ := hb
  have hbxne : bx ≠ w.heap.size := by omega
  have h7 : (call == 7) = false := by rcases hc with rfl | rfl | rfl | rfl <;> rfl
  have h5 : (call == 5) = false := by rcases hc with rfl | rfl | rfl | rfl <;> rfl
  have hgo := Go_calls (w.alloc (.cells #[.int .i64 0, .int .i64 0, .int .i64 0, .int .i64 0] 44)) B x most r read (hr.below ((Below.refl _ _).alloc hB _)) (by simp; omega) hm0 hm1
  rw [hX] at hgo
  simp only [WayR.cells] at hgo
  have HGO := Lib.hid hgo
  have HRD := Lib.hid hr
  obtain ⟨b, off, c, rfl, hbs, hcc, hbB⟩ : ∃ b off c, r = .slice (some ⟨b, off, none⟩) read.length c ∧ b < w.heap.size ∧ read.length ≤ c ∧ b < B := by
    obtain ⟨-, -, ar, cr, rfl, hcr, hrc⟩ := hr
    rcases hrc with hrc | ⟨b, off, rfl, hbB, -⟩
    · exact absurd hrc (over_some (key := x) (most := most) (by rw [hX]))
    · exact ⟨b, off, cr, rfl, by omega, hcr, hbB⟩
  have hrdI : (reads0 : Int) ≤ (read.length : Int) := by omega
  have hrdC : (reads0 : Int) ≤ (c : Int) := by omega
  have hrdn : reads0 ≤ c := by omega
  clear hr hgo hX
  subst hcl
  clear hc
  by_cases hcap : c = reads0
  · have HLZ : Hid (read.length = reads0) := (by omega : read.length = reads0)
    have hcap3 := hcap.symm
    subst hcap3
    clear hcap
    go_enter Try.func46, Try.ntmps46
    go_wp2_with fail
    refine HGO.out.mono ?_
    rintro e w1 ⟨rfl, hb1⟩
    have HGR := Lib.hid (box_keep hb1 (heap_new (w := w) rfl))
    have BW : Hid (Below w.heap.size w w1) := (below_alloc _ _).trans (hb1.mono (by simp))
    have hz1 : w.heap.size + 1 ≤ w1.heap.size := by have := hb1.size; simpa using this
    have HB1 := Lib.hid hb1
    have cx1 := (BW.out.cell (p := ⟨bx, ox, none⟩) hbxs).trans cx0
    have hbxz : bx ≠ w1.heap.size := by omega
    have hbxy : bx < w1.heap.size := by omega
    go_wp2_with fail
    refine wp_region_still_tail 8 (by kernel_rfl) (by kernel_rfl) ?_
    change wpStill _ _ (World.drew _) (fun a' => wpList _ _ _ _ a' (World.drew _)) _ _
    simp only [List.take_succ_cons, List.take_zero, List.drop_succ_cons, List.drop_zero]
    repeat still_step
    refine wpStill_nil ?_
    go_wp2_with fail
    refine Calls.mono (adds_calls _ B base most x link0 p0 node at0 key0 reads0 true cell0 _ _ writes (reads_drop (k := reads0) (((HRD.out.below ((Below.refl _ _).alloc hB _)).below (HB1.out.mono (by simp; omega))).below (Below.mono (below_drew_of (below_alloc w1 _)) (by omega))) (by have := HLZ.out; omega) (by have := HLZ.out; omega) (fun _ => by first | rfl | (exfalso; have := HLZ.out; omega))) (by simp; omega) HB.out _hlk) ?_
    rintro e w2 ⟨rfl, hb2⟩
    generalize addsS base most x ⟨link0, p0, node, at0, key0, reads0, true, cell0⟩ (read.drop reads0) writes = X at *
    obtain ⟨X0, X1, X2, X3⟩ := X
    have hg2 := box_keep hb2 (show (World.heap _)[w.heap.size]? = some (.cells #[.int .i64 0, .int .i64 0, .int .i64 0, .int .i64 0] 44 (0, 0)) from heap_old HGR.out)
    obtain ⟨⟨d0, d1, d2, d3⟩, ⟨g0, g1, g2, g3⟩, hz⟩ := box4 hg2
    simp only [WantS.val]
    go_wp2
    exact bodyPost_ret (results_cell_row rfl _ _ _ _ _ _ _ rfl (heap_set (heap_set (heap_set (heap_set hg2)))) Try.underlying44 rfl infoWant) rfl ⟨rfl, close_ref (w := w) (g := w.heap.size) (by first | exact below_alloc_of BW.out _ | exact below_drew_of (below_alloc_of BW.out _) | exact below_drewN_of (below_alloc_of BW.out _) _) (Nat.le_refl _) hb2⟩
  · have hcap2 : ¬ ((c : Int) = (reads0 : Int)) := by omega
    have hcap4 : (c = reads0) = False := by simpa using hcap
    have HLZ : Hid (read.length = read.length) := rfl
    go_enter Try.func46, Try.ntmps46
    go_wp2_with fail
    refine HGO.out.mono ?_
    rintro e w1 ⟨rfl, hb1⟩
    have HGR := Lib.hid (box_keep hb1 (heap_new (w := w) rfl))
    have BW : Hid (Below w.heap.size w w1) := (below_alloc _ _).trans (hb1.mono (by simp))
    have hz1 : w.heap.size + 1 ≤ w1.heap.size := by have := hb1.size; simpa using this
    have HB1 := Lib.hid hb1
    have cx1 := (BW.out.cell (p := ⟨bx, ox, none⟩) hbxs).trans cx0
    have hbxz : bx ≠ w1.heap.size := by omega
    have hbxy : bx < w1.heap.size := by omega
    go_wp2_with fail
    refine wp_region_still_tail 8 (by kernel_rfl) (by kernel_rfl) ?_
    change wpStill _ _ (World.drew _) (fun a' => wpList _ _ _ _ a' (World.drew _)) _ _
    simp only [List.take_succ_cons, List.take_zero, List.drop_succ_cons, List.drop_zero]
    repeat still_step
    refine wpStill_nil ?_
    go_wp2_with fail
    refine Calls.mono (adds_calls _ B base most x link0 p0 node at0 key0 reads0 true cell0 _ _ writes (reads_drop (k := reads0) (((HRD.out.below ((Below.refl _ _).alloc hB _)).below (HB1.out.mono (by simp; omega))).below (Below.mono (below_drew_of (below_alloc w1 _)) (by omega))) (by have := HLZ.out; omega) (by have := HLZ.out; omega) (fun _ => by first | rfl | (exfalso; have := HLZ.out; omega))) (by simp; omega) HB.out _hlk) ?_
    rintro e w2 ⟨rfl, hb2⟩
    generalize addsS base most x ⟨link0, p0, node, at0, key0, reads0, true, cell0⟩ (read.drop reads0) writes = X at *
    obtain ⟨X0, X1, X2, X3⟩ := X
    have hg2 := box_keep hb2 (show (World.heap _)[w.heap.size]? = some (.cells #[.int .i64 0, .int .i64 0, .int .i64 0, .int .i64 0] 44 (0, 0)) from heap_old HGR.out)
    obtain ⟨⟨d0, d1, d2, d3⟩, ⟨g0, g1, g2, g3⟩, hz⟩ := box4 hg2
    simp only [WantS.val]
    go_wp2
    exact bodyPost_ret (results_cell_row rfl _ _ _ _ _ _ _ rfl (heap_set (heap_set (heap_set (heap_set hg2)))) Try.underlying44 rfl infoWant) rfl ⟨rfl, close_ref (w := w) (g := w.heap.size) (by first | exact below_alloc_of BW.out _ | exact below_drew_of (below_alloc_of BW.out _) | exact below_drewN_of (below_alloc_of BW.out _) _) (Nat.le_refl _) hb2⟩

set_option maxRecDepth 100000 in
set_option maxHeartbeats 2000000 in
theorem ref_dels (w : World) (B : Nat) (base most call writes x : Int) (link0 p0 node : Int) (at0 : Bool) (key0 : Int) (reads0 : Nat) (cell0 : Int) (bx ox cx : Nat) (r : Value) (read : List Int) (hr : Reads w B r read) (hB : B ≤ w.heap.size) (hb : inB base most) (hc : call = 1 ∨ call = 4 ∨ call = 6 ∨ call = 8)
    (hbxs : bx < w.heap.size) (_hcx : 1 ≤ cx) (cx0 : w.cell? ⟨bx, ox, none⟩ = some (.int .i64 x)) (hX : goS x most read = ⟨link0, p0, node, at0, key0, reads0, true, cell0⟩) (_hlk : cellOk link0) (_hat : at0 = true → leadsP most node) (hrd : reads0 ≤ read.length) (hcl : call = 4) :
    Calls Try.prog 46 #[.int .i64 base, .int .i64 most, .int .i64 call, .slice (some ⟨bx, ox, none⟩) 1 cx, r, .int .i64 writes] w (Gives (delsS base ⟨link0, p0, node, at0, key0, reads0, true, cell0⟩ (read.drop reads0) writes).val w) := by
  have HB := Lib.hid hb
  obtain ⟨hb0, hb1', hm0, hm1⟩ := hb
  have hbxne : bx ≠ w.heap.size := by omega
  have h7 : (call == 7) = false := by rcases hc with rfl | rfl | rfl | rfl <;> rfl
  have h5 : (call == 5) = false := by rcases hc with rfl | rfl | rfl | rfl <;> rfl
  have hgo := Go_calls (w.alloc (.cells #[.int .i64 0, .int .i64 0, .int .i64 0, .int .i64 0] 44)) B x most r read (hr.below ((Below.refl _ _).alloc hB _)) (by simp; omega) hm0 hm1
  rw [hX] at hgo
  simp only [WayR.cells] at hgo
  have HGO := Lib.hid hgo
  have HRD := Lib.hid hr
  obtain ⟨b, off, c, rfl, hbs, hcc, hbB⟩ : ∃ b off c, r = .slice (some ⟨b, off, none⟩) read.length c ∧ b < w.heap.size ∧ read.length ≤ c ∧ b < B := by
    obtain ⟨-, -, ar, cr, rfl, hcr, hrc⟩ := hr
    rcases hrc with hrc | ⟨b, off, rfl, hbB, -⟩
    · exact absurd hrc (over_some (key := x) (most := most) (by rw [hX]))
    · exact ⟨b, off, cr, rfl, by omega, hcr, hbB⟩
  have hrdI : (reads0 : Int) ≤ (read.length : Int) := by omega
  have hrdC : (reads0 : Int) ≤ (c : Int) := by omega
  have hrdn : reads0 ≤ c := by omega
  clear hr hgo hX
  subst hcl
  clear hc
  by_cases hcap : c = reads0
  · have HLZ : Hid (read.length = reads0) := (by omega : read.length = reads0)
    have hcap3 := hcap.symm
    subst hcap3
    clear hcap
    go_enter Try.func46, Try.ntmps46
    go_wp2_with fail
    refine HGO.out.mono ?_
    rintro e w1 ⟨rfl, hb1⟩
    have HGR := Lib.hid (box_keep hb1 (heap_new (w := w) rfl))
    have BW : Hid (Below w.heap.size w w1) := (below_alloc _ _).trans (hb1.mono (by simp))
    have hz1 : w.heap.size + 1 ≤ w1.heap.size := by have := hb1.size; simpa using this
    have HB1 := Lib.hid hb1
    have cx1 := (BW.out.cell (p := ⟨bx, ox, none⟩) hbxs).trans cx0
    have hbxz : bx ≠ w1.heap.size := by omega
    have hbxy : bx < w1.heap.size := by omega
    go_wp2_with fail
    refine Calls.mono (dels_calls _ B base most link0 p0 node at0 key0 reads0 true cell0 _ _ writes (reads_drop (k := reads0) (((HRD.out.below ((Below.refl _ _).alloc hB _)).below (HB1.out.mono (by simp; omega))).below (Below.mono (below_alloc w1 _) (by omega))) (by have := HLZ.out; omega) (by have := HLZ.out; omega) (fun _ => by first | rfl | (exfalso; have := HLZ.out; omega))) (by simp; omega) HB.out _hat _hlk) ?_
    rintro e w2 ⟨rfl, hb2⟩
    generalize delsS base ⟨link0, p0, node, at0, key0, reads0, true, cell0⟩ (read.drop reads0) writes = X at *
    obtain ⟨X0, X1, X2, X3⟩ := X
    have hg2 := box_keep hb2 (show (World.heap _)[w.heap.size]? = some (.cells #[.int .i64 0, .int .i64 0, .int .i64 0, .int .i64 0] 44 (0, 0)) from heap_old HGR.out)
    obtain ⟨⟨d0, d1, d2, d3⟩, ⟨g0, g1, g2, g3⟩, hz⟩ := box4 hg2
    simp only [WantS.val]
    go_wp2
    exact bodyPost_ret (results_cell_row rfl _ _ _ _ _ _ _ rfl (heap_set (heap_set (heap_set (heap_set hg2)))) Try.underlying44 rfl infoWant) rfl ⟨rfl, close_ref (w := w) (g := w.heap.size) (by first | exact below_alloc_of BW.out _ | exact below_drew_of (below_alloc_of BW.out _) | exact below_drewN_of (below_alloc_of BW.out _) _) (Nat.le_refl _) hb2⟩
  · have hcap2 : ¬ ((c : Int) = (reads0 : Int)) := by omega
    have hcap4 : (c = reads0) = False := by simpa using hcap
    have HLZ : Hid (read.length = read.length) := rfl
    go_enter Try.func46, Try.ntmps46
    go_wp2_with fail
    refine HGO.out.mono ?_
    rintro e w1 ⟨rfl, hb1⟩
    have HGR := Lib.hid (box_keep hb1 (heap_new (w := w) rfl))
    have BW : Hid (Below w.heap.size w w1) := (below_alloc _ _).trans (hb1.mono (by simp))
    have hz1 : w.heap.size + 1 ≤ w1.heap.size := by have := hb1.size; simpa using this
    have HB1 := Lib.hid hb1
    have cx1 := (BW.out.cell (p := ⟨bx, ox, none⟩) hbxs).trans cx0
    have hbxz : bx ≠ w1.heap.size := by omega
    have hbxy : bx < w1.heap.size := by omega
    go_wp2_with fail
    refine Calls.mono (dels_calls _ B base most link0 p0 node at0 key0 reads0 true cell0 _ _ writes (reads_drop (k := reads0) (((HRD.out.below ((Below.refl _ _).alloc hB _)).below (HB1.out.mono (by simp; omega))).below (Below.mono (below_alloc w1 _) (by omega))) (by have := HLZ.out; omega) (by have := HLZ.out; omega) (fun _ => by first | rfl | (exfalso; have := HLZ.out; omega))) (by simp; omega) HB.out _hat _hlk) ?_
    rintro e w2 ⟨rfl, hb2⟩
    generalize delsS base ⟨link0, p0, node, at0, key0, reads0, true, cell0⟩ (read.drop reads0) writes = X at *
    obtain ⟨X0, X1, X2, X3⟩ := X
    have hg2 := box_keep hb2 (show (World.heap _)[w.heap.size]? = some (.cells #[.int .i64 0, .int .i64 0, .int .i64 0, .int .i64 0] 44 (0, 0)) from heap_old HGR.out)
    obtain ⟨⟨d0, d1, d2, d3⟩, ⟨g0, g1, g2, g3⟩, hz⟩ := box4 hg2
    simp only [WantS.val]
    go_wp2
    exact bodyPost_ret (results_cell_row rfl _ _ _ _ _ _ _ rfl (heap_set (heap_set (heap_set (heap_set hg2)))) Try.underlying44 rfl infoWant) rfl ⟨rfl, close_ref (w := w) (g := w.heap.size) (by first | exact below_alloc_of BW.out _ | exact below_drew_of (below_alloc_of BW.out _) | exact below_drewN_of (below_alloc_of BW.out _) _) (Nat.le_refl _) hb2⟩

set_option maxRecDepth 100000 in
set_option maxHeartbeats 2000000 in
theorem ref_next (w : World) (B : Nat) (base most call writes x : Int) (link0 p0 node : Int) (at0 : Bool) (key0 : Int) (reads0 : Nat) (cell0 : Int) (bx ox cx : Nat) (r : Value) (read : List Int) (hr : Reads w B r read) (hB : B ≤ w.heap.size) (hb : inB base most) (hc : call = 1 ∨ call = 4 ∨ call = 6 ∨ call = 8)
    (hbxs : bx < w.heap.size) (_hcx : 1 ≤ cx) (cx0 : w.cell? ⟨bx, ox, none⟩ = some (.int .i64 x)) (hX : goS x most read = ⟨link0, p0, node, at0, key0, reads0, true, cell0⟩) (_hlk : cellOk link0) (_hat : at0 = true → leadsP most node) (hrd : reads0 ≤ read.length) (hcl : call = 8) :
    Calls Try.prog 46 #[.int .i64 base, .int .i64 most, .int .i64 call, .slice (some ⟨bx, ox, none⟩) 1 cx, r, .int .i64 writes] w (Gives (nextS base most ⟨link0, p0, node, at0, key0, reads0, true, cell0⟩ (read.drop reads0)).val w) := by
  have HB := Lib.hid hb
  obtain ⟨hb0, hb1', hm0, hm1⟩ := hb
  have hbxne : bx ≠ w.heap.size := by omega
  have h7 : (call == 7) = false := by rcases hc with rfl | rfl | rfl | rfl <;> rfl
  have h5 : (call == 5) = false := by rcases hc with rfl | rfl | rfl | rfl <;> rfl
  have hgo := Go_calls (w.alloc (.cells #[.int .i64 0, .int .i64 0, .int .i64 0, .int .i64 0] 44)) B x most r read (hr.below ((Below.refl _ _).alloc hB _)) (by simp; omega) hm0 hm1
  rw [hX] at hgo
  simp only [WayR.cells] at hgo
  have HGO := Lib.hid hgo
  have HRD := Lib.hid hr
  obtain ⟨b, off, c, rfl, hbs, hcc, hbB⟩ : ∃ b off c, r = .slice (some ⟨b, off, none⟩) read.length c ∧ b < w.heap.size ∧ read.length ≤ c ∧ b < B := by
    obtain ⟨-, -, ar, cr, rfl, hcr, hrc⟩ := hr
    rcases hrc with hrc | ⟨b, off, rfl, hbB, -⟩
    · exact absurd hrc (over_some (key := x) (most := most) (by rw [hX]))
    · exact ⟨b, off, cr, rfl, by omega, hcr, hbB⟩
  have hrdI : (reads0 : Int) ≤ (read.length : Int) := by omega
  have hrdC : (reads0 : Int) ≤ (c : Int) := by omega
  have hrdn : reads0 ≤ c := by omega
  clear hr hgo hX
  subst hcl
  clear hc
  by_cases hcap : c = reads0
  · have HLZ : Hid (read.length = reads0) := (by omega : read.length = reads0)
    have hcap3 := hcap.symm
    subst hcap3
    clear hcap
    go_enter Try.func46, Try.ntmps46
    go_wp2_with fail
    refine HGO.out.mono ?_
    rintro e w1 ⟨rfl, hb1⟩
    have HGR := Lib.hid (box_keep hb1 (heap_new (w := w) rfl))
    have BW : Hid (Below w.heap.size w w1) := (below_alloc _ _).trans (hb1.mono (by simp))
    have hz1 : w.heap.size + 1 ≤ w1.heap.size := by have := hb1.size; simpa using this
    have HB1 := Lib.hid hb1
    have cx1 := (BW.out.cell (p := ⟨bx, ox, none⟩) hbxs).trans cx0
    have hbxz : bx ≠ w1.heap.size := by omega
    have hbxy : bx < w1.heap.size := by omega
    go_wp2_with fail
    refine Calls.mono (next_calls _ B base most link0 p0 node at0 key0 reads0 true cell0 _ _ (reads_drop (k := reads0) (((HRD.out.below ((Below.refl _ _).alloc hB _)).below (HB1.out.mono (by simp; omega))).below (Below.mono (below_alloc w1 _) (by omega))) (by have := HLZ.out; omega) (by have := HLZ.out; omega) (fun _ => by first | rfl | (exfalso; have := HLZ.out; omega))) (by simp; omega) HB.out _hat) ?_
    rintro e w2 ⟨rfl, hb2⟩
    generalize nextS base most ⟨link0, p0, node, at0, key0, reads0, true, cell0⟩ (read.drop reads0) = X at *
    obtain ⟨X0, X1, X2, X3⟩ := X
    have hg2 := box_keep hb2 (show (World.heap _)[w.heap.size]? = some (.cells #[.int .i64 0, .int .i64 0, .int .i64 0, .int .i64 0] 44 (0, 0)) from heap_old HGR.out)
    obtain ⟨⟨d0, d1, d2, d3⟩, ⟨g0, g1, g2, g3⟩, hz⟩ := box4 hg2
    simp only [WantS.val]
    go_wp2
    exact bodyPost_ret (results_cell_row rfl _ _ _ _ _ _ _ rfl (heap_set (heap_set (heap_set (heap_set hg2)))) Try.underlying44 rfl infoWant) rfl ⟨rfl, close_ref (w := w) (g := w.heap.size) (by first | exact below_alloc_of BW.out _ | exact below_drew_of (below_alloc_of BW.out _) | exact below_drewN_of (below_alloc_of BW.out _) _) (Nat.le_refl _) hb2⟩
  · have hcap2 : ¬ ((c : Int) = (reads0 : Int)) := by omega
    have hcap4 : (c = reads0) = False := by simpa using hcap
    have HLZ : Hid (read.length = read.length) := rfl
    go_enter Try.func46, Try.ntmps46
    go_wp2_with fail
    refine HGO.out.mono ?_
    rintro e w1 ⟨rfl, hb1⟩
    have HGR := Lib.hid (box_keep hb1 (heap_new (w := w) rfl))
    have BW : Hid (Below w.heap.size w w1) := (below_alloc _ _).trans (hb1.mono (by simp))
    have hz1 : w.heap.size + 1 ≤ w1.heap.size := by have := hb1.size; simpa using this
    have HB1 := Lib.hid hb1
    have cx1 := (BW.out.cell (p := ⟨bx, ox, none⟩) hbxs).trans cx0
    have hbxz : bx ≠ w1.heap.size := by omega
    have hbxy : bx < w1.heap.size := by omega
    go_wp2_with fail
    refine Calls.mono (next_calls _ B base most link0 p0 node at0 key0 reads0 true cell0 _ _ (reads_drop (k := reads0) (((HRD.out.below ((Below.refl _ _).alloc hB _)).below (HB1.out.mono (by simp; omega))).below (Below.mono (below_alloc w1 _) (by omega))) (by have := HLZ.out; omega) (by have := HLZ.out; omega) (fun _ => by first | rfl | (exfalso; have := HLZ.out; omega))) (by simp; omega) HB.out _hat) ?_
    rintro e w2 ⟨rfl, hb2⟩
    generalize nextS base most ⟨link0, p0, node, at0, key0, reads0, true, cell0⟩ (read.drop reads0) = X at *
    obtain ⟨X0, X1, X2, X3⟩ := X
    have hg2 := box_keep hb2 (show (World.heap _)[w.heap.size]? = some (.cells #[.int .i64 0, .int .i64 0, .int .i64 0, .int .i64 0] 44 (0, 0)) from heap_old HGR.out)
    obtain ⟨⟨d0, d1, d2, d3⟩, ⟨g0, g1, g2, g3⟩, hz⟩ := box4 hg2
    simp only [WantS.val]
    go_wp2
    exact bodyPost_ret (results_cell_row rfl _ _ _ _ _ _ _ rfl (heap_set (heap_set (heap_set (heap_set hg2)))) Try.underlying44 rfl infoWant) rfl ⟨rfl, close_ref (w := w) (g := w.heap.size) (by first | exact below_alloc_of BW.out _ | exact below_drew_of (below_alloc_of BW.out _) | exact below_drewN_of (below_alloc_of BW.out _) _) (Nat.le_refl _) hb2⟩

set_option maxRecDepth 100000 in
set_option maxHeartbeats 2000000 in
theorem ref_has (w : World) (B : Nat) (base most call writes x : Int) (link0 p0 node : Int) (at0 : Bool) (key0 : Int) (reads0 : Nat) (cell0 : Int) (bx ox cx : Nat) (r : Value) (read : List Int) (hr : Reads w B r read) (hB : B ≤ w.heap.size) (hb : inB base most) (hc : call = 1 ∨ call = 4 ∨ call = 6 ∨ call = 8)
    (hbxs : bx < w.heap.size) (_hcx : 1 ≤ cx) (cx0 : w.cell? ⟨bx, ox, none⟩ = some (.int .i64 x)) (hX : goS x most read = ⟨link0, p0, node, at0, key0, reads0, true, cell0⟩) (_hlk : cellOk link0) (_hat : at0 = true → leadsP most node) (hrd : reads0 ≤ read.length) (hcl : call = 6) :
    Calls Try.prog 46 #[.int .i64 base, .int .i64 most, .int .i64 call, .slice (some ⟨bx, ox, none⟩) 1 cx, r, .int .i64 writes] w (Gives (if at0 = true then endS 1 0 else endS 0 0).val w) := by
  have HB := Lib.hid hb
  obtain ⟨hb0, hb1', hm0, hm1⟩ := hb
  have hbxne : bx ≠ w.heap.size := by omega
  have h7 : (call == 7) = false := by rcases hc with rfl | rfl | rfl | rfl <;> rfl
  have h5 : (call == 5) = false := by rcases hc with rfl | rfl | rfl | rfl <;> rfl
  have hgo := Go_calls (w.alloc (.cells #[.int .i64 0, .int .i64 0, .int .i64 0, .int .i64 0] 44)) B x most r read (hr.below ((Below.refl _ _).alloc hB _)) (by simp; omega) hm0 hm1
  rw [hX] at hgo
  simp only [WayR.cells] at hgo
  have HGO := Lib.hid hgo
  have HRD := Lib.hid hr
  obtain ⟨b, off, c, rfl, hbs, hcc, hbB⟩ : ∃ b off c, r = .slice (some ⟨b, off, none⟩) read.length c ∧ b < w.heap.size ∧ read.length ≤ c ∧ b < B := by
    obtain ⟨-, -, ar, cr, rfl, hcr, hrc⟩ := hr
    rcases hrc with hrc | ⟨b, off, rfl, hbB, -⟩
    · exact absurd hrc (over_some (key := x) (most := most) (by rw [hX]))
    · exact ⟨b, off, cr, rfl, by omega, hcr, hbB⟩
  have hrdI : (reads0 : Int) ≤ (read.length : Int) := by omega
  have hrdC : (reads0 : Int) ≤ (c : Int) := by omega
  have hrdn : reads0 ≤ c := by omega
  clear hr hgo hX
  cases at0 with
  | true =>
    rw [if_pos rfl]
    subst hcl
    clear hc
    by_cases hcap : c = reads0
    · have HLZ : Hid (read.length = reads0) := (by omega : read.length = reads0)
      have hcap3 := hcap.symm
      subst hcap3
      clear hcap
      go_enter Try.func46, Try.ntmps46
      go_wp2_with fail
      refine HGO.out.mono ?_
      rintro e w1 ⟨rfl, hb1⟩
      have HGR := Lib.hid (box_keep hb1 (heap_new (w := w) rfl))
      have BW : Hid (Below w.heap.size w w1) := (below_alloc _ _).trans (hb1.mono (by simp))
      have hz1 : w.heap.size + 1 ≤ w1.heap.size := by have := hb1.size; simpa using this
      have HB1 := Lib.hid hb1
      have cx1 := (BW.out.cell (p := ⟨bx, ox, none⟩) hbxs).trans cx0
      have hbxz : bx ≠ w1.heap.size := by omega
      have hbxy : bx < w1.heap.size := by omega
      go_wp2_with fail
      refine Calls.mono (End_calls (1) (0) _) ?_
      rintro e w2 ⟨rfl, hb2⟩
      generalize endS 1 0 = X at *
      obtain ⟨X0, X1, X2, X3⟩ := X
      have hg2 := box_keep hb2 (show (World.heap _)[w.heap.size]? = some (.cells #[.int .i64 0, .int .i64 0, .int .i64 0, .int .i64 0] 44 (0, 0)) from heap_old HGR.out)
      obtain ⟨⟨d0, d1, d2, d3⟩, ⟨g0, g1, g2, g3⟩, hz⟩ := box4 hg2
      simp only [WantS.val]
      go_wp2
      exact bodyPost_ret (results_cell_row rfl _ _ _ _ _ _ _ rfl (heap_set (heap_set (heap_set (heap_set hg2)))) Try.underlying44 rfl infoWant) rfl ⟨rfl, close_ref (w := w) (g := w.heap.size) (by first | exact below_alloc_of BW.out _ | exact below_drew_of (below_alloc_of BW.out _) | exact below_drewN_of (below_alloc_of BW.out _) _) (Nat.le_refl _) hb2⟩
    · have hcap2 : ¬ ((c : Int) = (reads0 : Int)) := by omega
      have hcap4 : (c = reads0) = False := by simpa using hcap
      have HLZ : Hid (read.length = read.length) := rfl
      go_enter Try.func46, Try.ntmps46
      go_wp2_with fail
      refine HGO.out.mono ?_
      rintro e w1 ⟨rfl, hb1⟩
      have HGR := Lib.hid (box_keep hb1 (heap_new (w := w) rfl))
      have BW : Hid (Below w.heap.size w w1) := (below_alloc _ _).trans (hb1.mono (by simp))
      have hz1 : w.heap.size + 1 ≤ w1.heap.size := by have := hb1.size; simpa using this
      have HB1 := Lib.hid hb1
      have cx1 := (BW.out.cell (p := ⟨bx, ox, none⟩) hbxs).trans cx0
      have hbxz : bx ≠ w1.heap.size := by omega
      have hbxy : bx < w1.heap.size := by omega
      go_wp2_with fail
      refine Calls.mono (End_calls (1) (0) _) ?_
      rintro e w2 ⟨rfl, hb2⟩
      generalize endS 1 0 = X at *
      obtain ⟨X0, X1, X2, X3⟩ := X
      have hg2 := box_keep hb2 (show (World.heap _)[w.heap.size]? = some (.cells #[.int .i64 0, .int .i64 0, .int .i64 0, .int .i64 0] 44 (0, 0)) from heap_old HGR.out)
      obtain ⟨⟨d0, d1, d2, d3⟩, ⟨g0, g1, g2, g3⟩, hz⟩ := box4 hg2
      simp only [WantS.val]
      go_wp2
      exact bodyPost_ret (results_cell_row rfl _ _ _ _ _ _ _ rfl (heap_set (heap_set (heap_set (heap_set hg2)))) Try.underlying44 rfl infoWant) rfl ⟨rfl, close_ref (w := w) (g := w.heap.size) (by first | exact below_alloc_of BW.out _ | exact below_drew_of (below_alloc_of BW.out _) | exact below_drewN_of (below_alloc_of BW.out _) _) (Nat.le_refl _) hb2⟩
  | false =>
    rw [if_neg (by simp)]
    subst hcl
    clear hc
    by_cases hcap : c = reads0
    · have HLZ : Hid (read.length = reads0) := (by omega : read.length = reads0)
      have hcap3 := hcap.symm
      subst hcap3
      clear hcap
      go_enter Try.func46, Try.ntmps46
      go_wp2_with fail
      refine HGO.out.mono ?_
      rintro e w1 ⟨rfl, hb1⟩
      have HGR := Lib.hid (box_keep hb1 (heap_new (w := w) rfl))
      have BW : Hid (Below w.heap.size w w1) := (below_alloc _ _).trans (hb1.mono (by simp))
      have hz1 : w.heap.size + 1 ≤ w1.heap.size := by have := hb1.size; simpa using this
      have HB1 := Lib.hid hb1
      have cx1 := (BW.out.cell (p := ⟨bx, ox, none⟩) hbxs).trans cx0
      have hbxz : bx ≠ w1.heap.size := by omega
      have hbxy : bx < w1.heap.size := by omega
      go_wp2_with fail
      refine Calls.mono (End_calls (0) (0) _) ?_
      rintro e w2 ⟨rfl, hb2⟩
      generalize endS 0 0 = X at *
      obtain ⟨X0, X1, X2, X3⟩ := X
      have hg2 := box_keep hb2 (show (World.heap _)[w.heap.size]? = some (.cells #[.int .i64 0, .int .i64 0, .int .i64 0, .int .i64 0] 44 (0, 0)) from heap_old HGR.out)
      obtain ⟨⟨d0, d1, d2, d3⟩, ⟨g0, g1, g2, g3⟩, hz⟩ := box4 hg2
      simp only [WantS.val]
      go_wp2
      exact bodyPost_ret (results_cell_row rfl _ _ _ _ _ _ _ rfl (heap_set (heap_set (heap_set (heap_set hg2)))) Try.underlying44 rfl infoWant) rfl ⟨rfl, close_ref (w := w) (g := w.heap.size) (by first | exact below_alloc_of BW.out _ | exact below_drew_of (below_alloc_of BW.out _) | exact below_drewN_of (below_alloc_of BW.out _) _) (Nat.le_refl _) hb2⟩
    · have hcap2 : ¬ ((c : Int) = (reads0 : Int)) := by omega
      have hcap4 : (c = reads0) = False := by simpa using hcap
      have HLZ : Hid (read.length = read.length) := rfl
      go_enter Try.func46, Try.ntmps46
      go_wp2_with fail
      refine HGO.out.mono ?_
      rintro e w1 ⟨rfl, hb1⟩
      have HGR := Lib.hid (box_keep hb1 (heap_new (w := w) rfl))
      have BW : Hid (Below w.heap.size w w1) := (below_alloc _ _).trans (hb1.mono (by simp))
      have hz1 : w.heap.size + 1 ≤ w1.heap.size := by have := hb1.size; simpa using this
      have HB1 := Lib.hid hb1
      have cx1 := (BW.out.cell (p := ⟨bx, ox, none⟩) hbxs).trans cx0
      have hbxz : bx ≠ w1.heap.size := by omega
      have hbxy : bx < w1.heap.size := by omega
      go_wp2_with fail
      refine Calls.mono (End_calls (0) (0) _) ?_
      rintro e w2 ⟨rfl, hb2⟩
      generalize endS 0 0 = X at *
      obtain ⟨X0, X1, X2, X3⟩ := X
      have hg2 := box_keep hb2 (show (World.heap _)[w.heap.size]? = some (.cells #[.int .i64 0, .int .i64 0, .int .i64 0, .int .i64 0] 44 (0, 0)) from heap_old HGR.out)
      obtain ⟨⟨d0, d1, d2, d3⟩, ⟨g0, g1, g2, g3⟩, hz⟩ := box4 hg2
      simp only [WantS.val]
      go_wp2
      exact bodyPost_ret (results_cell_row rfl _ _ _ _ _ _ _ rfl (heap_set (heap_set (heap_set (heap_set hg2)))) Try.underlying44 rfl infoWant) rfl ⟨rfl, close_ref (w := w) (g := w.heap.size) (by first | exact below_alloc_of BW.out _ | exact below_drew_of (below_alloc_of BW.out _) | exact below_drewN_of (below_alloc_of BW.out _) _) (Nat.le_refl _) hb2⟩

set_option maxRecDepth 100000 in
set_option maxHeartbeats 2000000 in
theorem ref_least (w : World) (B : Nat) (base most writes : Int) (a r : Value) (xs read : List Int) (ha : Reads w B a xs) (hr : Reads w B r read) (hB : B ≤ w.heap.size) (hb : inB base most) :
    Calls Try.prog 46 #[.int .i64 base, .int .i64 most, .int .i64 7, a, r, .int .i64 writes] w (Gives (leastS base most read).val w) := by
  have HB := Lib.hid hb
  have HRD := Lib.hid hr
  obtain ⟨-, -, aa, ca, rfl, -, -⟩ := ha
  obtain ⟨-, -, ar, cr, rfl, -, -⟩ := hr
  go_enter Try.func46, Try.ntmps46
  go_wp2_with fail
  refine (least_calls _ B base most _ read (HRD.out.below ((Below.refl _ _).alloc hB _)) (by simp; omega) HB.out).mono ?_
  rintro e w1 ⟨rfl, hb1⟩
  generalize leastS base most read = X at *
  obtain ⟨X0, X1, X2, X3⟩ := X
  have hg1 := box_keep hb1 (show (World.heap _)[w.heap.size]? = some (.cells #[.int .i64 0, .int .i64 0, .int .i64 0, .int .i64 0] 44 (0, 0)) from heap_new (by simp))
  obtain ⟨⟨d0, d1, d2, d3⟩, ⟨g0, g1, g2, g3⟩, hz⟩ := box4 hg1
  simp only [WantS.val]
  go_wp2
  exact bodyPost_ret (results_cell_row rfl _ _ _ _ _ _ _ rfl (heap_set (heap_set (heap_set (heap_set hg1)))) Try.underlying44 rfl infoWant) rfl ⟨rfl, close_ref (g := w.heap.size) (below_alloc _ _) (Nat.le_refl _) hb1⟩

set_option maxRecDepth 100000 in
set_option maxHeartbeats 2000000 in
theorem ref_length (w : World) (B : Nat) (base most writes : Int) (a r : Value) (xs read : List Int) (ha : Reads w B a xs) (hr : Reads w B r read) (hB : B ≤ w.heap.size) (hb : inB base most) :
    Calls Try.prog 46 #[.int .i64 base, .int .i64 most, .int .i64 5, a, r, .int .i64 writes] w (Gives (lenLoop base most read 0 0).val w) := by
  have HB := Lib.hid hb
  have HRD := Lib.hid hr
  obtain ⟨-, -, aa, ca, rfl, -, -⟩ := ha
  obtain ⟨-, -, ar, cr, rfl, -, -⟩ := hr
  go_enter Try.func46, Try.ntmps46
  go_wp2_with fail
  refine (length_calls _ B base most _ read (HRD.out.below ((Below.refl _ _).alloc hB _)) (by simp; omega) HB.out).mono ?_
  rintro e w1 ⟨rfl, hb1⟩
  generalize lenLoop base most read 0 0 = X at *
  obtain ⟨X0, X1, X2, X3⟩ := X
  have hg1 := box_keep hb1 (show (World.heap _)[w.heap.size]? = some (.cells #[.int .i64 0, .int .i64 0, .int .i64 0, .int .i64 0] 44 (0, 0)) from heap_new (by simp))
  obtain ⟨⟨d0, d1, d2, d3⟩, ⟨g0, g1, g2, g3⟩, hz⟩ := box4 hg1
  simp only [WantS.val]
  go_wp2
  exact bodyPost_ret (results_cell_row rfl _ _ _ _ _ _ _ rfl (heap_set (heap_set (heap_set (heap_set hg1)))) Try.underlying44 rfl infoWant) rfl ⟨rfl, close_ref (g := w.heap.size) (below_alloc _ _) (Nat.le_refl _) hb1⟩

theorem refNext_calls (w : World) (B : Nat) (base most call writes : Int) (a r : Value) (xs read : List Int) (ha : Reads w B a xs) (hr : Reads w B r read) (hB : B ≤ w.heap.size)
    (hok : Askable base most call xs) :
    Calls Try.prog 46 #[.int .i64 base, .int .i64 most, .int .i64 call, a, r, .int .i64 writes] w (Gives (refS base most call xs read writes).val w) := by
  obtain ⟨hb, hcall⟩ := hok
  rcases hcall with ⟨hc, hx1⟩ | ⟨hc, hx0⟩
  · obtain ⟨x, rfl⟩ := list_one hx1
    obtain ⟨bx, ox, cx, rfl, hbxs, hcx, -, cx0, -⟩ := reads_at ha hB
    have hOK := goS_ok (key := x) hb.2.2.2 read
    have e : refS base most call [x] read writes = longS base most call x (goS x most read) read writes := by
      unfold refS longS
      rw [if_neg (by omega), if_neg (by omega), show ([x] : List Int).getD 0 0 = x from rfl]
    rw [e]
    clear e
    unfold longS
    generalize hX : goS x most read = X at *
    obtain ⟨link0, p0, node, at0, key0, reads0, over0, cell0⟩ := X
    obtain ⟨o1, o2, o3, o4, o5⟩ := hOK
    cases over0 with
    | false => exact ref_near w B base most call writes x link0 p0 node at0 key0 reads0 cell0 bx ox cx r read hr hB hb hc hbxs hcx cx0 hX o2
    | true =>
      rw [if_neg (by simp)]
      by_cases h1 : call = 1
      · rw [if_pos h1]
        exact ref_adds w B base most call writes x link0 p0 node at0 key0 reads0 cell0 bx ox cx r read hr hB hb hc hbxs hcx cx0 hX o1 o4 o5 h1
      rw [if_neg h1]
      by_cases h4 : call = 4
      · rw [if_pos h4]
        exact ref_dels w B base most call writes x link0 p0 node at0 key0 reads0 cell0 bx ox cx r read hr hB hb hc hbxs hcx cx0 hX o1 o4 o5 h4
      rw [if_neg h4]
      by_cases h8 : call = 8
      · rw [if_pos h8]
        exact ref_next w B base most call writes x link0 p0 node at0 key0 reads0 cell0 bx ox cx r read hr hB hb hc hbxs hcx cx0 hX o1 o4 o5 h8
      rw [if_neg h8]
      exact ref_has w B base most call writes x link0 p0 node at0 key0 reads0 cell0 bx ox cx r read hr hB hb hc hbxs hcx cx0 hX o1 o4 o5 (by omega)
  · rcases hc with rfl | rfl
    · exact ref_least w B base most writes a r xs read ha hr hB hb
    · exact ref_length w B base most writes a r xs read ha hr hB hb

end Go.Proofs.Ytihlbhlagpmbjaa
