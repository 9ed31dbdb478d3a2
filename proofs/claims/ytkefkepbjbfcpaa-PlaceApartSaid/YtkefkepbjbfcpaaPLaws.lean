/- The walks of the laws of layer 19. -/
import Derived.Test.YtkefkepbjbfcpaaPFrame
namespace Go.Proofs.Ytkefkepbjbfcpaa
open Go.RowKit

theorem baseV_form (c : Cfg) (rs : List (Int × Int)) (r : Int) : ∃ n e, baseV c rs r = .tuple #[.int .i64 n, .int .i64 e] := by
  unfold baseV
  split
  · split <;> exact ⟨_, _, rfl⟩
  · exact ⟨_, _, rfl⟩

set_option maxHeartbeats 400000 in
theorem Sizes_walk (w : World) (kind cap : Int) : Calls Try.prog 3 #[regV kind cap] w (True_ w) := by
  have H1 := Lib.hid (fun w => Size_calls kind cap w)
  have H2 := Lib.hid (fun w => RSize_calls kind cap w)
  unfold regV sizeV at *
  generalize sizeN kind cap = n at *
  generalize sizeE kind cap = e at *
  go_enter Try.func3, Try.ntmps3
  go_wp2_with fail
  refine (H1.out _).mono ?_
  rintro e1 w1 ⟨rfl, hb1⟩
  have hc := box_keep hb1 (heap_new (w := w) rfl)
  have c0 := cell_of_row w1 _ 0 _ _ _ hc
  have c1 := cell_of_row w1 _ 1 _ _ _ hc
  simp at c0 c1
  go_wp2_with fail
  refine (H2.out _).mono ?_
  rintro e2 w2 ⟨rfl, hb2⟩
  go_wp2
  go_ret
  exact ⟨rfl, (below_trans (below_alloc _ _) hb1).trans (hb2.mono (by have := hb1.size; simp at this; omega))⟩

theorem reads_old {w w' : World} {v : Value} {rs : List (Int × Int)} (h : ReadsR w w.heap.size v rs) (hb : Below w.heap.size w w') : ReadsR w' w.heap.size v rs := h.below hb

set_option maxHeartbeats 1000000 in
theorem Checks_walk (w : World) (c : Cfg) (v : Value) (rs : List (Int × Int)) (hr : ReadsR w w.heap.size v rs) : Calls Try.prog 4 #[c.val v] w (True_ w) := by
  have HR := Lib.hid hr
  have H1 := Lib.hid (fun w B h1 h2 => Check_calls w B c v rs h1 h2)
  have H2 := Lib.hid (fun w B h1 h2 => RefCheck_calls w B c v rs h1 h2)
  unfold Cfg.val Cfg.cells at *
  generalize checkE c rs = E at *
  clear hr
  go_enter Try.func4, Try.ntmps4
  go_wp2_with fail
  refine (H1.out _ w.heap.size (HR.out.below (below_alloc _ _)) (by simp)).mono ?_
  rintro e1 w1 ⟨rfl, hb1⟩
  have hc := box_keep hb1 (heap_new (w := w) rfl)
  obtain ⟨q0, q1, q2, q3, q4, q5, q6⟩ := box7 hc
  have hb01 := below_trans (below_alloc _ _) hb1
  clear hc
  go_wp2_with fail
  refine (H2.out _ w.heap.size (HR.out.below hb01) hb01.size).mono ?_
  rintro e2 w2 ⟨rfl, hb2⟩
  go_wp2
  go_ret
  exact ⟨rfl, hb01.trans (hb2.mono hb01.size)⟩

set_option maxHeartbeats 1000000 in
theorem Bases_walk (w : World) (c : Cfg) (v : Value) (rs : List (Int × Int)) (r : Int) (hr : ReadsR w w.heap.size v rs) : Calls Try.prog 6 #[c.val v, .int .i64 r] w (True_ w) := by
  have HR := Lib.hid hr
  have H1 := Lib.hid (fun w B h1 h2 => Base_calls w B c v rs r h1 h2)
  have H2 := Lib.hid (fun w B h1 h2 => RefBase_calls w B c v rs r h1 h2)
  obtain ⟨n, e, hbv⟩ := baseV_form c rs r
  rw [hbv] at H1 H2
  unfold Cfg.val Cfg.cells at *
  clear hr hbv
  go_enter Try.func6, Try.ntmps6
  go_wp2_with fail
  refine (H1.out _ w.heap.size (HR.out.below (below_alloc _ _)) (by simp)).mono ?_
  rintro e1 w1 ⟨rfl, hb1⟩
  have hc := box_keep hb1 (heap_new (w := w) rfl)
  obtain ⟨q0, q1, q2, q3, q4, q5, q6⟩ := box7 hc
  have hb01 := below_trans (below_alloc _ _) hb1
  clear hc
  go_wp2_with fail
  refine (H2.out _ w.heap.size (HR.out.below hb01) hb01.size).mono ?_
  rintro e2 w2 ⟨rfl, hb2⟩
  go_wp2
  go_ret
  exact ⟨rfl, hb01.trans (hb2.mono hb01.size)⟩

theorem cells_bd (c : Cfg) (rs : List (Int × Int)) : (if checkE c rs = 0 then c.raw + sumSz rs rs.length else 0) ≤ 1024 := by
  split
  · rename_i h
    obtain ⟨f0, f1, -, -, -, -, -, -, -, -, f2⟩ := of_decide_eq_true (check_ok h)
    have := sum_bd rs rs.length (Nat.le_refl _)
    omega
  · omega

set_option maxHeartbeats 1000000 in
theorem Cells_walk (w : World) (c : Cfg) (v : Value) (rs : List (Int × Int)) (hr : ReadsR w w.heap.size v rs) : Calls Try.prog 5 #[c.val v] w (True_ w) := by
  have HR := Lib.hid hr
  have H1 := Lib.hid (fun w B h1 h2 => Cells_calls w B c v rs h1 h2)
  have H2 := Lib.hid (fun w B h1 h2 => RefCells_calls w B c v rs h1 h2)
  have hbd := cells_bd c rs
  unfold cellsV at *
  generalize (if checkE c rs = 0 then c.raw + sumSz rs rs.length else 0) = n at *
  generalize checkE c rs = e at *
  unfold Cfg.val Cfg.cells at *
  clear hr
  go_enter Try.func5, Try.ntmps5
  go_wp2_with fail
  refine (H1.out _ w.heap.size (HR.out.below (below_alloc _ _)) (by simp)).mono ?_
  rintro e1 w1 ⟨rfl, hb1⟩
  have hc := box_keep hb1 (heap_new (w := w) rfl)
  obtain ⟨q0, q1, q2, q3, q4, q5, q6⟩ := box7 hc
  have hb01 := below_trans (below_alloc _ _) hb1
  clear hc
  go_wp2_with fail
  refine (H2.out _ w.heap.size (HR.out.below hb01) hb01.size).mono ?_
  rintro e2 w2 ⟨rfl, hb2⟩
  go_wp2
  go_ret
  exact ⟨rfl, hb01.trans (hb2.mono hb01.size)⟩

end Go.Proofs.Ytkefkepbjbfcpaa
