/- What the chain's cells say: the contract of the program's Shape. -/
import Derived.Test.YtihlbhlagpmbjaaShapeD18
import Derived.Test.YtihlbhlagpmbjaaMachC18a
import Derived.Deep.RegionHeld3
import Derived.Outline
import Derived.IntWalk
namespace Go.Proofs.Ytihlbhlagpmbjaa
open Go.RowKit

set_option maxRecDepth 100000 in
set_option maxHeartbeats 1000000 in
theorem Shape_bad (w : World) (B : Nat) (most : Int) (a : Value) (xs : List Int) (ha : Reads w B a xs) (hno : shapeOk most xs = false) :
    Calls Try.prog 15 #[.int .i64 most, a] w (ShapePost 0 [] 1 w) := by
  obtain ⟨hxl, hxr, a, ca, rfl, hca, ha⟩ := ha
  clear ha hxr
  have hno := of_decide_eq_false hno
  rcases (show most < 0 ∨ (0 ≤ most ∧ 16 < most) ∨ (0 ≤ most ∧ most ≤ 16 ∧ ¬ (xs.length : Int) = sizeI most) from by omega) with h | ⟨h, h1⟩ | ⟨h, h1, h2⟩
  case' inr.inr => have h2' : ((xs.length : Int) != sizeI most) = true := (by simpa using h2); clear h2
  all_goals
    clear hno
    go_enter Try.func15, Try.ntmps15
    go_wp2_with (go_at_call 12; refine (Size_calls _ _).mono ?_; rintro e w' ⟨rfl, rfl⟩)
    refine bodyPost_ret (results_shape (p := 4) (u := 5) rfl _ _ _ _ _ _ _ rfl (heap_new rfl) Try.underlying28 rfl infoShape) rfl ⟨none, 0, 0, rfl, owns_nil _ _, below_alloc _ _⟩

set_option maxRecDepth 100000 in
set_option maxHeartbeats 1000000 in
theorem Shape_used (w : World) (B : Nat) (most : Int) (a : Value) (xs : List Int) (ha : Reads w B a xs) (hB : B ≤ w.heap.size) (hok : shapeOk most xs = true) (hu : usedOk most xs = false) :
    Calls Try.prog 15 #[.int .i64 most, a] w (ShapePost 0 [] 12 w) := by
  obtain ⟨hxl, hxr, a, ca, rfl, hca, ha⟩ := ha
  obtain ⟨⟨h0, h1⟩, hl⟩ := of_decide_eq_true hok
  have hl' : ((xs.length : Int) != sizeI most) = false := by simpa using hl
  rw [sizeI_in h0 h1] at hl
  rcases ha with h | ⟨b, off, rfl, hBb, hcell⟩
  · subst h; simp at hl; omega
  have c2 := hcell 2 (by omega)
  have hu := of_decide_eq_false hu
  unfold usedC at hu
  generalize xs.getD 2 0 = u at *
  have hbs : b < w.heap.size := by omega
  have hbne : b ≠ w.heap.size := by omega
  have hx2 : (2 : Int) < xs.length := by omega
  clear hok hcell hxr hl
  rcases (show u < 0 ∨ (0 ≤ u ∧ most < u) from by omega) with h | ⟨h, h2⟩
  all_goals
    clear hu
    go_enter Try.func15, Try.ntmps15
    go_wp2_with (go_at_call 12; refine (Size_calls _ _).mono ?_; rintro e w' ⟨rfl, rfl⟩)
    refine bodyPost_ret (results_shape (p := 4) (u := 5) rfl _ _ _ _ _ _ _ rfl (heap_new rfl) Try.underlying28 rfl infoShape) rfl ⟨none, 0, 0, rfl, owns_nil _ _, below_alloc _ _⟩

set_option maxRecDepth 100000 in
set_option maxHeartbeats 2000000 in
theorem Shape_rows (w : World) (B : Nat) (most : Int) (a : Value) (xs : List Int) (ha : Reads w B a xs) (hB : B ≤ w.heap.size) (hok : shapeOk most xs = true) (hu : usedOk most xs = true) (hr : rowsOk xs = false) :
    Calls Try.prog 15 #[.int .i64 most, a] w (ShapePost 0 [] 12 w) := by
  have HA := Lib.hid ha
  have HXR := Lib.hid ha.2.1
  obtain ⟨hxl, hxr, a, ca, rfl, hca, ha⟩ := ha
  obtain ⟨⟨h0, h1⟩, hl⟩ := of_decide_eq_true hok
  have hl' : ((xs.length : Int) != sizeI most) = false := by simpa using hl
  rw [sizeI_in h0 h1] at hl
  rcases ha with h | ⟨b, off, rfl, hBb, hcell⟩
  · subst h; simp at hl; omega
  have c0 := hcell 0 (by omega)
  have c1 := hcell 1 (by omega)
  have c2 := hcell 2 (by omega)
  rw [Nat.add_zero] at c0
  have hu := of_decide_eq_true hu
  have hlen : (xs.length : Int) = 2 * most + 3 := hl
  have r0 : -9223372036854775808 ≤ xs.getD 0 0 ∧ xs.getD 0 0 ≤ 9223372036854775807 := hxr _ (by rw [List.getD_eq_getElem?_getD, List.getElem?_eq_getElem (by omega)]; simp)
  have r1 : -9223372036854775808 ≤ xs.getD 1 0 ∧ xs.getD 1 0 ≤ 9223372036854775807 := hxr _ (by rw [List.getD_eq_getElem?_getD, List.getElem?_eq_getElem (by omega)]; simp)
  obtain ⟨u0, u1⟩ := hu
  have hmA : Marks (usedC xs) (rowA xs).2.2 := rowF_marks (marks_nil _)
  have HRA := Lib.hid (fun (W : World) (bm : Nat) (ha : Reads W B (.slice (some ⟨b, off, none⟩) xs.length ca) xs) (hb : B ≤ bm) (hs : Seen W bm []) => row_calls W B bm most (usedC xs) (xs.getD 0 0) _ xs [] 17 ha hb hs (marks_nil _) hlen ⟨u0, u1, h1⟩ rfl r0 rfl)
  have hS17 : (rowA xs).2.2.length ≤ 17 := by
    obtain ⟨n, hn⟩ := Int.eq_ofNat_of_zero_le u0
    have := marks_len n _ (by rw [← hn]; exact hmA)
    omega
  have HRB := Lib.hid (fun (W : World) (bm : Nat) (ha : Reads W B (.slice (some ⟨b, off, none⟩) xs.length ca) xs) (hb : B ≤ bm) (hs : Seen W bm (rowA xs).2.2) => row_calls W B bm most (usedC xs) (xs.getD 1 0) _ xs (rowA xs).2.2 (17 - (rowA xs).2.2.length) ha hb hs hmA hlen ⟨u0, u1, h1⟩ rfl r1 (by omega))
  have hcase : (rowA xs).1 = false ∨ (rowA xs).1 = true ∧ (rowB xs).1 = false ∨ (rowA xs).1 = true ∧ (rowB xs).1 = true ∧ ¬ ((rowB xs).2.2.length : Int) = usedC xs := by
    by_cases e1 : (rowA xs).1 = true
    · by_cases e2 : (rowB xs).1 = true
      · exact .inr (.inr ⟨e1, e2, by simpa [rowsOk, e1, e2] using hr⟩)
      · exact .inr (.inl ⟨e1, by simpa using e2⟩)
    · exact .inl (by simpa using e1)
  have hA : rowF xs (usedC xs) 17 (xs.getD 0 0) [] [] = rowA xs := rfl
  have hBB : rowF xs (usedC xs) (17 - (rowA xs).2.2.length) (xs.getD 1 0) (rowA xs).2.2 [] = rowB xs := rfl
  rw [hA] at HRA
  rw [hBB] at HRB
  have c2' : w.cell? ⟨b, off + 2, none⟩ = some (.int .i64 (usedC xs)) := c2
  generalize rowA xs = RA at *
  generalize rowB xs = RB at *
  generalize usedC xs = u at *
  generalize xs.getD 0 0 = f0 at *
  generalize xs.getD 1 0 = f1 at *
  obtain ⟨A0, A1, A2⟩ := RA
  obtain ⟨B0, B1, B2⟩ := RB
  have hbs : b < w.heap.size := by omega
  have hbne : b ≠ w.heap.size := by omega
  have hx0 : (0 : Int) < xs.length := by omega
  have hx1 : (1 : Int) < xs.length := by omega
  have hx2 : (2 : Int) < xs.length := by omega
  clear hok hcell hxr hl hr hA hBB hmA hS17 c2 hlen
  dsimp only at hcase HRA HRB
  have hmk : ∀ W, (Instr.makeMap 57 none).run Try.prog W = .ok (.map (some W.heap.size)) (W.alloc (.map #[] 0)) := fun _ => rfl
  go_enter Try.func15, Try.ntmps15
  go_wp2_with (go_at_call 12; refine (Size_calls _ _).mono ?_; rintro e w' ⟨rfl, rfl⟩)
  have HSM : Hid (∀ o, Seen ((w.alloc o).alloc (.map #[] 0)) (w.heap.size + 1) []) := fun o => by have := seen_made (w.alloc o); simpa using this
  have HAM : Hid (∀ o o', Reads ((w.alloc o).alloc o') B (.slice (some ⟨b, off, none⟩) xs.length ca) xs) := fun o o' => HA.out.below (((Below.refl _ _).alloc hB _).alloc (by simp; omega) _)
  go_wp2_with fail
  refine Calls.mono (HRA.out _ _ (HAM.out _ _) (by omega) (HSM.out _)) ?_
  rintro e w1 ⟨v1, rfl, own1, hs1, -, hg1⟩
  have hz1 := hg1.size
  simp at hz1
  have hk1 : w1.heap[w.heap.size]? = some (.cells #[.int .i64 0, .slice none 0 0, .slice none 0 0] 28 (0, 0)) := (hg1.block w.heap.size (by show _ < ((w.alloc _).alloc _).heap.size; simp <;> omega) (by simp <;> omega)).trans (heap_old (heap_new rfl))
  have b1 : Below w.heap.size w w1 := ⟨hg1.os, hg1.tape, hg1.output, by omega, fun q hq => (hg1.block q (by simp; omega) (fun e => by injection e with e; omega)).trans ((Below.heap_alloc _ _ _ (by simp; omega)).trans (Below.heap_alloc _ _ _ hq))⟩
  have B1 := Lib.hid b1
  have HK1 := Lib.hid hk1
  have HS1 := Lib.hid hs1
  have d1 : w1.cell? ⟨b, off + 1, none⟩ = some (.int .i64 f1) := (b1.cell (p := ⟨b, off + 1, none⟩) hbs).trans c1
  have d2 : w1.cell? ⟨b, off + 2, none⟩ = some (.int .i64 u) := (b1.cell (p := ⟨b, off + 2, none⟩) hbs).trans c2'
  clear hk1 hs1 b1 hg1 own1
  dsimp only
  go_wp2_with fail
  refine Calls.mono (HRB.out _ _ ((HA.out.below (B1.out.mono hB))) (by omega) HS1.out) ?_
  rintro e w2 ⟨v2, rfl, own2, hs2, -, hg2⟩
  have hz2 := hg2.size
  have hk2 : w2.heap[w.heap.size]? = some (.cells #[.int .i64 0, .slice none 0 0, .slice none 0 0] 28 (0, 0)) := (hg2.block w.heap.size (by omega) (by simp)).trans HK1.out
  have b2 : Below w.heap.size w w2 := B1.out.trans ⟨hg2.os, hg2.tape, hg2.output, hg2.size, fun q hq => hg2.block q (by omega) (fun e => by injection e with e; omega)⟩
  have e2 : w2.cell? ⟨b, off + 2, none⟩ = some (.int .i64 u) := (b2.cell (p := ⟨b, off + 2, none⟩) hbs).trans c2'
  have hln : ∀ ty n, (Builtin.len_ #[57] ty #[.map (some (w.heap.size + 1))]).run Try.prog (w2.drewN n) = .ok (.int .i64 B2.length) (w2.drewN n) := fun ty n => Seen.len (w := w2.drewN n) hs2 ty
  obtain ⟨⟨s0, s1, s2⟩, ⟨t0, t1, t2⟩, hlt2⟩ := box3 hk2
  have HK2 := Lib.hid hk2
  have B2' := Lib.hid b2
  clear hk2 b2 hs2 hg2 own2 hmk
  rcases hcase with rfl | ⟨rfl, rfl⟩ | ⟨rfl, rfl, hne⟩
  case' inr.inr => have hne' : ((B2.length : Int) != u) = true := (by simpa using hne); clear hne
  all_goals
    dsimp only
    go_wp2_with fail
    go_quiet (fail)
    go_wp2
    refine bodyPost_ret (results_shape (p := 4) (u := 5) rfl _ _ _ _ _ _ _ rfl (heap_set (heap_set (heap_set HK2.out))) Try.underlying28 rfl infoShape) rfl ⟨none, 0, 0, rfl, owns_nil _ _, ?_⟩
    exact ((below_trans B2'.out (below_drewN _ _) |>.setCell (by simp) _).setCell (by simp) _).setCell (by simp) _

end Go.Proofs.Ytihlbhlagpmbjaa
