/- What the chain's cells say: the contract of the reference's Shape. -/
import Derived.Test.YtihlbhlagpmbjaaRefShapeD18
import Derived.Test.YtihlbhlagpmbjaaShapeQ18
import Derived.Deep.LoopGhost
namespace Go.Proofs.Ytihlbhlagpmbjaa
open Go.RowKit

theorem rowF_len {cs : List Int} {u : Int} : ∀ {f : Nat} {p : Int} {S l : List Int}, (rowF cs u f p S l).2.1.length ≤ l.length + f
  | 0, p, S, l => by
    unfold rowF
    split
    · simp
    · simp
  | f + 1, p, S, l => by
    unfold rowF
    split
    · simp
    · split
      · have := rowF_len (cs := cs) (u := u) (f := f) (p := cs.getD (linkI p).toNat 0) (S := p :: S) (l := l ++ [p])
        simp at this ⊢
        omega
      · simp
theorem rows_len (cs : List Int) : (rowA cs).2.1.length ≤ 17 ∧ (rowB cs).2.1.length ≤ 17 := by
  have h1 := rowF_len (cs := cs) (u := usedC cs) (f := 17) (p := cs.getD 0 0) (S := []) (l := [])
  have h2 := rowF_len (cs := cs) (u := usedC cs) (f := 17 - (rowA cs).2.2.length) (p := cs.getD 1 0) (S := (rowA cs).2.2) (l := [])
  exact ⟨Nat.le_trans h1 (by simp), Nat.le_trans h2 (by simp)⟩

set_option maxRecDepth 100000 in
set_option maxHeartbeats 4000000 in
theorem RefShape_rows (w : World) (B : Nat) (most : Int) (a : Value) (xs : List Int) (ha : Reads w B a xs) (hB : B ≤ w.heap.size) (hok : shapeOk most xs = true) (hu : usedOk most xs = true) (hr : rowsOk xs = false) :
    Calls Try.prog 16 #[.int .i64 most, a] w (ShapePost 0 [] 12 w) := by
  have HA := Lib.hid ha
  have HXR := Lib.hid ha.2.1
  obtain ⟨hxl, hxr, a, ca, rfl, hca, ha⟩ := ha
  obtain ⟨⟨h0, h1⟩, hl⟩ := of_decide_eq_true hok
  have hl' : ((xs.length : Int) != sizeI most) = false := by simpa using hl
  have hrb := rightB_t h0 h1
  rw [sizeI_in h0 h1] at hl
  rcases ha with h | ⟨b, off, rfl, hBb, hcell⟩
  · subst h; simp at hl; omega
  have c0 := hcell 0 (by omega)
  have c1 := hcell 1 (by omega)
  have c2 := hcell 2 (by omega)
  rw [Nat.add_zero] at c0
  have hu := of_decide_eq_true hu
  have hlen : (xs.length : Int) = 2 * most + 3 := hl
  obtain ⟨i0, yi, yz0, yz1, yz2⟩ := info_parts infoI64
  obtain ⟨bi, zi, zz0, zz1, zz2⟩ := info_parts infoBool
  have r0 : -9223372036854775808 ≤ xs.getD 0 0 ∧ xs.getD 0 0 ≤ 9223372036854775807 := hxr _ (by rw [List.getD_eq_getElem?_getD, List.getElem?_eq_getElem (by omega)]; simp)
  have r1 : -9223372036854775808 ≤ xs.getD 1 0 ∧ xs.getD 1 0 ≤ 9223372036854775807 := hxr _ (by rw [List.getD_eq_getElem?_getD, List.getElem?_eq_getElem (by omega)]; simp)
  obtain ⟨u0, u1⟩ := hu
  obtain ⟨u, hun⟩ := Int.eq_ofNat_of_zero_le u0
  have hmA : Marks (usedC xs) (rowA xs).2.2 := rowF_marks (marks_nil _)
  rw [hun] at hmA u1
  have HRA : Hid (∀ (W : World) (bm : Nat) (_ : Reads W B (.slice (some ⟨b, off, none⟩) xs.length ca) xs) (_ : B ≤ bm) (_ : SeenB W bm u []), Calls Try.prog 30 #[.slice (some ⟨b, off, none⟩) xs.length ca, .int .i64 (xs.getD 0 0), .int .i64 (u : Int), .slice (some ⟨bm, 0, none⟩) (u + 1) (u + 1)] W (RefRowPost bm u (rowA xs) W)) := fun W bm ha hb hs => by
    have := refrow_calls W B bm u (u + 1) most (xs.getD 0 0) _ xs [] 17 ha hb hs (marks_nil _) hlen ⟨u1, h1⟩ (Nat.le_refl _) r0 rfl
    rw [← hun] at this
    rw [← hun]
    exact this
  have hS17 : (rowA xs).2.2.length ≤ 17 := by
    have := marks_len u _ hmA
    omega
  have HRB : Hid (∀ (W : World) (bm : Nat) (_ : Reads W B (.slice (some ⟨b, off, none⟩) xs.length ca) xs) (_ : B ≤ bm) (_ : SeenB W bm u (rowA xs).2.2), Calls Try.prog 30 #[.slice (some ⟨b, off, none⟩) xs.length ca, .int .i64 (xs.getD 1 0), .int .i64 (u : Int), .slice (some ⟨bm, 0, none⟩) (u + 1) (u + 1)] W (RefRowPost bm u (rowB xs) W)) := fun W bm ha hb hs => by
    have := refrow_calls W B bm u (u + 1) most (xs.getD 1 0) _ xs (rowA xs).2.2 (17 - (rowA xs).2.2.length) ha hb hs hmA hlen ⟨u1, h1⟩ (Nat.le_refl _) r1 (by omega)
    rw [← hun] at this
    rw [← hun]
    exact this
  have hcase : (rowA xs).1 = false ∨ (rowA xs).1 = true ∧ (rowB xs).1 = false ∨ (rowA xs).1 = true ∧ (rowB xs).1 = true ∧ ¬ (((rowA xs).2.1.length : Int) + (rowB xs).2.1.length = u) := by
    by_cases e1 : (rowA xs).1 = true
    · by_cases e2 : (rowB xs).1 = true
      · refine .inr (.inr ⟨e1, e2, ?_⟩)
        have h3 : ¬ ((rowB xs).2.2.length : Int) = usedC xs := by simpa [rowsOk, e1, e2] using hr
        rw [rowB_ok e2, (rowA_ok e1).1, List.length_reverse, hun] at h3
        omega
      · exact .inr (.inl ⟨e1, by simpa using e2⟩)
    · exact .inl (by simpa using e1)
  have c2' : w.cell? ⟨b, off + 2, none⟩ = some (.int .i64 (u : Int)) := by rw [← hun]; exact c2
  have hR17 : (rowA xs).2.1.length ≤ 17 ∧ (rowB xs).2.1.length ≤ 17 := rows_len xs
  generalize rowA xs = RA at *
  generalize rowB xs = RB at *
  generalize xs.getD 0 0 = f0 at *
  generalize xs.getD 1 0 = f1 at *
  obtain ⟨A0, A1, A2⟩ := RA
  obtain ⟨B0, B1, B2⟩ := RB
  have hbs : b < w.heap.size := by omega
  have hbne : b ≠ w.heap.size := by omega
  have hx0 : (0 : Int) < xs.length := by omega
  have hx1 : (1 : Int) < xs.length := by omega
  have hx2 : (2 : Int) < xs.length := by omega
  have hu16 : (u : Int) ≤ 16 := by omega
  clear hok hcell hxr hl hr hmA hS17 c2 hlen hun u0
  dsimp only at hcase HRA HRB hR17
  go_enter Try.func16, Try.ntmps16
  go_wp2_with (first | (go_at_call 27; refine (Right_calls _ _).mono ?_; rintro e w' ⟨rfl, rfl⟩) | (go_at_call 13; refine (RefSize_calls _ _).mono ?_; rintro e w' ⟨rfl, rfl⟩) | (at_make; refine wpList_make_full _ rfl _ _ 61 rfl (w.heap.size + 1) 4 bi (.bool false) 1 Try.underlying61 zi zz0 zz1 _ _ _ _ (u + 1) rfl rfl (by omega) (by omega) (by rw [zz2]; omega) (by unfold maxLen; omega) (by simp) ?_))
  intro w1 hown1 hgr1
  have hz1 := hgr1.size
  simp only [World.size_alloc] at hz1
  have hs1 : SeenB w1 (w.heap.size + 1) u [] := seenB_made (by simpa [Value.cells] using hown1)
  have hlt1 := hs1.lt
  have hk1 : w1.heap[w.heap.size]? = some (.cells #[.int .i64 0, .slice none 0 0, .slice none 0 0] 28 (0, 0)) := (hgr1.block w.heap.size (by simp) (by simp)).trans (heap_new rfl)
  have b1 : Below w.heap.size w w1 := ⟨hgr1.os, hgr1.tape, hgr1.output, by omega, fun q hq => (hgr1.block q (by simp; omega) (by simp)).trans (Below.heap_alloc _ _ _ hq)⟩
  have B1' := Lib.hid b1
  have HK1 := Lib.hid hk1
  have d0 : w1.cell? ⟨b, off, none⟩ = some (.int .i64 f0) := (b1.cell (p := ⟨b, off, none⟩) hbs).trans c0
  have d1 : w1.cell? ⟨b, off + 1, none⟩ = some (.int .i64 f1) := (b1.cell (p := ⟨b, off + 1, none⟩) hbs).trans c1
  have HS1 := Lib.hid hs1
  have hzz := World.size_alloc w (.cells #[.int .i64 0, .slice none 0 0, .slice none 0 0] 28 (0, 0))
  clear hs1 hk1 b1 hown1 hgr1
  go_wp2_with fail
  refine Calls.mono (HRA.out _ _ (HA.out.below (B1'.out.mono hB)) (by omega) (by simpa using HS1.out)) ?_
  rintro e w2 ⟨v2, rfl, own2, hs2, -, hg2⟩
  have hz2 := hg2.size
  have hk2 : w2.heap[w.heap.size]? = some (.cells #[.int .i64 0, .slice none 0 0, .slice none 0 0] 28 (0, 0)) := (hg2.block w.heap.size (by omega) (by simp)).trans HK1.out
  have b2 : Below w.heap.size w w2 := B1'.out.trans ⟨hg2.os, hg2.tape, hg2.output, hg2.size, fun q hq => hg2.block q (by omega) (fun e => by simp at e; omega)⟩
  have B2' := Lib.hid b2
  have HK2 := Lib.hid hk2
  have HS2 := Lib.hid hs2
  have e1 : w2.cell? ⟨b, off + 1, none⟩ = some (.int .i64 f1) := (b2.cell (p := ⟨b, off + 1, none⟩) hbs).trans c1
  have OW2 := Lib.hid own2
  obtain ⟨a2, cp2, rfl, hcp2, -⟩ := own2.opened
  clear hk2 hs2 b2 hg2 own2 d0 d1
  dsimp only
  go_wp2_with fail
  refine Calls.mono (HRB.out _ _ (HA.out.below (B2'.out.mono hB)) (by omega) HS2.out) ?_
  rintro e w3 ⟨v3, rfl, own3, hs3, -, hg3⟩
  have hz3 := hg3.size
  have hk3 : w3.heap[w.heap.size]? = some (.cells #[.int .i64 0, .slice none 0 0, .slice none 0 0] 28 (0, 0)) := (hg3.block w.heap.size (by omega) (by simp)).trans HK2.out
  have b3 : Below w.heap.size w w3 := B2'.out.trans ⟨hg3.os, hg3.tape, hg3.output, hg3.size, fun q hq => hg3.block q (by omega) (fun e => by simp at e; omega)⟩
  have OW3 : Hid (OwnsI w3 w1.heap.size (.slice a2 A1.length cp2) A1) := OW2.out.keep hg3 (fun q hq => by simp at hq; omega)
  obtain ⟨a3, cp3, rfl, hcp3, -⟩ := own3.opened
  obtain ⟨⟨s0, s1, s2⟩, ⟨t0, t1, t2⟩, hlt3⟩ := box3 hk3
  have HK3 := Lib.hid hk3
  have B3' := Lib.hid b3
  obtain ⟨hA17, hB17⟩ := hR17
  clear hk3 hs3 b3 hg3 own3 e1
  rcases hcase with rfl | ⟨rfl, rfl⟩ | ⟨rfl, rfl, hne⟩
  case' inr.inr => have hne' : ((A1.length : Int) + (B1.length : Int) != (u : Int)) = true := (by simpa using hne); clear hne
  all_goals
    dsimp only
    go_wp2_with fail
    refine bodyPost_ret (results_shape (p := 4) (u := 5) rfl _ _ _ _ _ _ _ rfl (heap_set (heap_set (heap_set HK3.out))) Try.underlying28 rfl infoShape) rfl ⟨none, 0, 0, rfl, owns_nil _ _, ?_⟩
    exact ((B3'.out.setCell (by simp) _).setCell (by simp) _).setCell (by simp) _

set_option maxRecDepth 100000 in
set_option maxHeartbeats 4000000 in
theorem RefShape_fine (w : World) (B : Nat) (most : Int) (a : Value) (xs : List Int) (ha : Reads w B a xs) (hB : B ≤ w.heap.size) (hok : shapeOk most xs = true) (hu : usedOk most xs = true) (hr : rowsOk xs = true) :
    Calls Try.prog 16 #[.int .i64 most, a] w (FinePost (keysC xs (rowA xs).2.1) w) := by
  have HA := Lib.hid ha
  have HXR := Lib.hid ha.2.1
  obtain ⟨hxl, hxr, a, ca, rfl, hca, ha⟩ := ha
  obtain ⟨⟨h0, h1⟩, hl⟩ := of_decide_eq_true hok
  have hl' : ((xs.length : Int) != sizeI most) = false := by simpa using hl
  have hrb := rightB_t h0 h1
  rw [sizeI_in h0 h1] at hl
  rcases ha with h | ⟨b, off, rfl, hBb, hcell⟩
  · subst h; simp at hl; omega
  have c0 := hcell 0 (by omega)
  have c1 := hcell 1 (by omega)
  have c2 := hcell 2 (by omega)
  rw [Nat.add_zero] at c0
  have hu := of_decide_eq_true hu
  have hlen : (xs.length : Int) = 2 * most + 3 := hl
  obtain ⟨i0, yi, yz0, yz1, yz2⟩ := info_parts infoI64
  obtain ⟨bi, zi, zz0, zz1, zz2⟩ := info_parts infoBool
  have r0 : -9223372036854775808 ≤ xs.getD 0 0 ∧ xs.getD 0 0 ≤ 9223372036854775807 := hxr _ (by rw [List.getD_eq_getElem?_getD, List.getElem?_eq_getElem (by omega)]; simp)
  have r1 : -9223372036854775808 ≤ xs.getD 1 0 ∧ xs.getD 1 0 ≤ 9223372036854775807 := hxr _ (by rw [List.getD_eq_getElem?_getD, List.getElem?_eq_getElem (by omega)]; simp)
  obtain ⟨u0, u1⟩ := hu
  obtain ⟨u, hun⟩ := Int.eq_ofNat_of_zero_le u0
  have hmA : Marks (usedC xs) (rowA xs).2.2 := rowF_marks (marks_nil _)
  rw [hun] at hmA u1
  have HRA : Hid (∀ (W : World) (bm : Nat) (_ : Reads W B (.slice (some ⟨b, off, none⟩) xs.length ca) xs) (_ : B ≤ bm) (_ : SeenB W bm u []), Calls Try.prog 30 #[.slice (some ⟨b, off, none⟩) xs.length ca, .int .i64 (xs.getD 0 0), .int .i64 (u : Int), .slice (some ⟨bm, 0, none⟩) (u + 1) (u + 1)] W (RefRowPost bm u (rowA xs) W)) := fun W bm ha hb hs => by
    have := refrow_calls W B bm u (u + 1) most (xs.getD 0 0) _ xs [] 17 ha hb hs (marks_nil _) hlen ⟨u1, h1⟩ (Nat.le_refl _) r0 rfl
    rw [← hun] at this
    rw [← hun]
    exact this
  have hS17 : (rowA xs).2.2.length ≤ 17 := by
    have := marks_len u _ hmA
    omega
  have HRB : Hid (∀ (W : World) (bm : Nat) (_ : Reads W B (.slice (some ⟨b, off, none⟩) xs.length ca) xs) (_ : B ≤ bm) (_ : SeenB W bm u (rowA xs).2.2), Calls Try.prog 30 #[.slice (some ⟨b, off, none⟩) xs.length ca, .int .i64 (xs.getD 1 0), .int .i64 (u : Int), .slice (some ⟨bm, 0, none⟩) (u + 1) (u + 1)] W (RefRowPost bm u (rowB xs) W)) := fun W bm ha hb hs => by
    have := refrow_calls W B bm u (u + 1) most (xs.getD 1 0) _ xs (rowA xs).2.2 (17 - (rowA xs).2.2.length) ha hb hs hmA hlen ⟨u1, h1⟩ (Nat.le_refl _) r1 (by omega)
    rw [← hun] at this
    rw [← hun]
    exact this
  have hcase : (rowA xs).1 = true ∧ (rowB xs).1 = true ∧ ((rowA xs).2.1.length : Int) + (rowB xs).2.1.length = u := by
    unfold rowsOk at hr
    rw [Bool.and_eq_true, Bool.and_eq_true, decide_eq_true_eq] at hr
    refine ⟨hr.1.1, hr.1.2, ?_⟩
    have h3 := hr.2
    rw [rowB_ok hr.1.2, (rowA_ok hr.1.1).1, List.length_reverse, hun] at h3
    omega
  have hnodes := (rowA_ok hcase.1).2
  rw [hun] at hnodes
  have c2' : w.cell? ⟨b, off + 2, none⟩ = some (.int .i64 (u : Int)) := by rw [← hun]; exact c2
  have hR17 : (rowA xs).2.1.length ≤ 17 ∧ (rowB xs).2.1.length ≤ 17 := rows_len xs
  generalize rowA xs = RA at *
  generalize rowB xs = RB at *
  generalize xs.getD 0 0 = f0 at *
  generalize xs.getD 1 0 = f1 at *
  obtain ⟨A0, A1, A2⟩ := RA
  obtain ⟨B0, B1, B2⟩ := RB
  have hbs : b < w.heap.size := by omega
  have hbne : b ≠ w.heap.size := by omega
  have hx0 : (0 : Int) < xs.length := by omega
  have hx1 : (1 : Int) < xs.length := by omega
  have hx2 : (2 : Int) < xs.length := by omega
  have hu16 : (u : Int) ≤ 16 := by omega
  have HLEN := Lib.hid hlen
  have HCE := Lib.hid hcell
  clear hok hcell hxr hl hr hmA hS17 c2 hlen hun u0
  dsimp only at hcase HRA HRB hR17
  go_enter Try.func16, Try.ntmps16
  go_wp2_with (first | (go_at_call 27; refine (Right_calls _ _).mono ?_; rintro e w' ⟨rfl, rfl⟩) | (go_at_call 13; refine (RefSize_calls _ _).mono ?_; rintro e w' ⟨rfl, rfl⟩) | (at_make; refine wpList_make_full _ rfl _ _ 61 rfl (w.heap.size + 1) 4 bi (.bool false) 1 Try.underlying61 zi zz0 zz1 _ _ _ _ (u + 1) rfl rfl (by omega) (by omega) (by rw [zz2]; omega) (by unfold maxLen; omega) (by simp) ?_))
  intro w1 hown1 hgr1
  have hz1 := hgr1.size
  simp only [World.size_alloc] at hz1
  have hs1 : SeenB w1 (w.heap.size + 1) u [] := seenB_made (by simpa [Value.cells] using hown1)
  have hlt1 := hs1.lt
  have hk1 : w1.heap[w.heap.size]? = some (.cells #[.int .i64 0, .slice none 0 0, .slice none 0 0] 28 (0, 0)) := (hgr1.block w.heap.size (by simp) (by simp)).trans (heap_new rfl)
  have b1 : Below w.heap.size w w1 := ⟨hgr1.os, hgr1.tape, hgr1.output, by omega, fun q hq => (hgr1.block q (by simp; omega) (by simp)).trans (Below.heap_alloc _ _ _ hq)⟩
  have B1' := Lib.hid b1
  have HK1 := Lib.hid hk1
  have d0 : w1.cell? ⟨b, off, none⟩ = some (.int .i64 f0) := (b1.cell (p := ⟨b, off, none⟩) hbs).trans c0
  have d1 : w1.cell? ⟨b, off + 1, none⟩ = some (.int .i64 f1) := (b1.cell (p := ⟨b, off + 1, none⟩) hbs).trans c1
  have HS1 := Lib.hid hs1
  have hzz := World.size_alloc w (.cells #[.int .i64 0, .slice none 0 0, .slice none 0 0] 28 (0, 0))
  clear hs1 hk1 b1 hown1 hgr1
  go_wp2_with fail
  refine Calls.mono (HRA.out _ _ (HA.out.below (B1'.out.mono hB)) (by omega) (by simpa using HS1.out)) ?_
  rintro e w2 ⟨v2, rfl, own2, hs2, -, hg2⟩
  have hz2 := hg2.size
  have hk2 : w2.heap[w.heap.size]? = some (.cells #[.int .i64 0, .slice none 0 0, .slice none 0 0] 28 (0, 0)) := (hg2.block w.heap.size (by omega) (by simp)).trans HK1.out
  have b2 : Below w.heap.size w w2 := B1'.out.trans ⟨hg2.os, hg2.tape, hg2.output, hg2.size, fun q hq => hg2.block q (by omega) (fun e => by simp at e; omega)⟩
  have B2' := Lib.hid b2
  have HK2 := Lib.hid hk2
  have HS2 := Lib.hid hs2
  have e1 : w2.cell? ⟨b, off + 1, none⟩ = some (.int .i64 f1) := (b2.cell (p := ⟨b, off + 1, none⟩) hbs).trans c1
  have OW2 := Lib.hid own2
  obtain ⟨a2, cp2, rfl, hcp2, -⟩ := own2.opened
  clear hk2 hs2 b2 hg2 own2 d0 d1
  dsimp only
  go_wp2_with fail
  refine Calls.mono (HRB.out _ _ (HA.out.below (B2'.out.mono hB)) (by omega) HS2.out) ?_
  rintro e w3 ⟨v3, rfl, own3, hs3, -, hg3⟩
  have hz3 := hg3.size
  have hk3 : w3.heap[w.heap.size]? = some (.cells #[.int .i64 0, .slice none 0 0, .slice none 0 0] 28 (0, 0)) := (hg3.block w.heap.size (by omega) (by simp)).trans HK2.out
  have b3 : Below w.heap.size w w3 := B2'.out.trans ⟨hg3.os, hg3.tape, hg3.output, hg3.size, fun q hq => hg3.block q (by omega) (fun e => by simp at e; omega)⟩
  have OW3 : Hid (OwnsI w3 w1.heap.size (.slice a2 A1.length cp2) A1) := OW2.out.keep hg3 (fun q hq => by simp at hq; omega)
  obtain ⟨a3, cp3, rfl, hcp3, -⟩ := own3.opened
  obtain ⟨⟨s0, s1, s2⟩, ⟨t0, t1, t2⟩, hlt3⟩ := box3 hk3
  have HK3 := Lib.hid hk3
  have B3' := Lib.hid b3
  obtain ⟨hA17, hB17⟩ := hR17
  clear hk3 hs3 b3 hg3 own3 e1
  obtain ⟨rfl, rfl, hsum⟩ := hcase
  have hsum' : ((A1.length : Int) + (B1.length : Int) != (u : Int)) = false := by simpa using hsum
  have hNC : A1 = [] ∨ ∃ nb, a2 = some ⟨nb, 0, none⟩ ∧ nb < w3.heap.size ∧ ∀ i, i < A1.length → w3.cell? ⟨nb, i, none⟩ = some (.int .i64 (A1.getD i 0)) := by
    obtain ⟨a2', c2', hv, -, h⟩ := OW3.out.opened
    injection hv with e1 e2 e3
    subst e1
    rcases h with h | ⟨g, h1, h2, h3, h4⟩
    · exact .inl h
    · exact .inr ⟨g, h1, h3, h4⟩
  have HNC := Lib.hid hNC
  clear hNC hsum
  dsimp only
  go_wp2_with fail
  go_loopg [14] (A1.length + 1) (fun nn v14 wr => ∃ (k : Nat) (a' : Option Addr) (n' c' : Nat), k ≤ A1.length ∧ v14 = .int .i64 k ∧ nn + k = A1.length + 1 ∧
    wr.ownsRow (w3.heap.size + 1) 2 1 (.slice a' n' c') k (((keysC xs A1).take k).map (Value.int .i64)) ∧ wr.heap[w3.heap.size]? = some (.cells #[.int .i64 4, .slice a' n' c', .slice none 0 0] 28 (0, 0)) ∧
    Below w3.heap.size w3 wr ∧ Rises (keysC xs A1) k)
  case atStart =>
    exact ⟨0, none, 0, 0, Nat.zero_le _, rfl, rfl, World.ownsRow_nil _ _ _ _, heap_new (by simp), below_alloc _ _, fun i hi => by omega⟩
  case round =>
    obtain ⟨k, a', n', c', hk, rfl, hn, own, hS, bel, hris⟩ := hrel
    obtain ⟨⟨s0, s1, s2⟩, ⟨g0, g1, g2⟩, hSlt⟩ := box3 hS
    have HS := Lib.hid hS
    have HN := Lib.hid hn
    have HRI := Lib.hid hris
    have hzr := bel.size
    have hR6 : wr.heap[w.heap.size]? = some (.cells #[.int .i64 0, .slice none 0 0, .slice none 0 0] 28 (0, 0)) := (bel.block _ (by omega)).trans HK3.out
    have HR6 := Lib.hid hR6
    obtain ⟨⟨z0, z1, z2⟩, ⟨y0, y1, y2⟩, hz6⟩ := box3 hR6
    clear hS hn hris hR6
    by_cases hlt : k < A1.length
    · rcases HNC.out with h | ⟨nb, rfl, hnb, hncell⟩
      · rw [h] at hlt; simp at hlt
      have hq := (bel.cell (p := ⟨nb, k, none⟩) hnb).trans (hncell k hlt)
      have hqm : A1.getD k 0 ∈ A1 := by rw [List.getD_eq_getElem?_getD, List.getElem?_eq_getElem hlt]; simp
      have hl := hnodes _ hqm
      have hkey : (keysC xs A1).getD k 0 = xs.getD (keyI (A1.getD k 0)).toNat 0 := by unfold keysC; simp [List.getD_eq_getElem?_getD, hlt]
      have hkl : (keysC xs A1).length = A1.length := by simp [keysC]
      have htk := take_snoc' (keysC xs A1) k (by omega)
      generalize A1.getD k 0 = q at *
      obtain ⟨l0, l1⟩ := hl
      obtain ⟨j, hj⟩ : ∃ j : Nat, keyI q = j := Int.eq_ofNat_of_zero_le (by unfold keyI; omega)
      have hjl : (j : Int) < (xs.length : Int) := by have := HLEN.out; unfold keyI at hj; omega
      have HKC : Hid (∀ W, Calls Try.prog 31 #[.int .i64 q] W (Just (.int .i64 (j : Int)) W)) := fun W => by rw [← hj]; exact rkey_calls W q (by omega) (by omega)
      rw [hj, Int.toNat_natCast] at hkey
      have hbw2 : b < w3.heap.size := by omega
      have hx : wr.cell? ⟨b, off + j, none⟩ = some (.int .i64 (xs.getD j 0)) := (bel.cell (p := ⟨b, off + j, none⟩) hbw2).trans ((B3'.out.cell (p := ⟨b, off + j, none⟩) hbs).trans (HCE.out j (by omega)))
      rw [hkey] at htk
      have HTK := Lib.hid htk
      have HKEY := Lib.hid hkey
      generalize xs.getD j 0 = x at *
      have hklt : (k : Int) < (A1.length : Int) := by omega
      have htl : ((keysC xs A1).take k).length = k := by simp; omega
      have hcl6 : ∀ i, i < k → ∃ g, a' = some ⟨g, 0, none⟩ ∧ n' = k ∧ wr.cell? ⟨g, i, none⟩ = some (.int .i64 ((keysC xs A1).getD i 0)) := fun i hi => by
        rcases own.2 with ⟨h3, h4⟩ | ⟨g', cap', cur, hv, _, hg, hnc, _, hcs, htk2⟩
        · omega
        · injection hv with e1 e2 e3
          refine ⟨g', e1, e2, ?_⟩
          have h1 : (cur.toList.take (k * 1))[i]? = (((keysC xs A1).take k).map (Value.int .i64))[i]? := by rw [htk2]
          rw [Nat.mul_one, List.getElem?_take, if_pos hi] at h1
          rw [cell_of_row wr g' i _ _ _ hg]
          simp [hi, show i < (keysC xs A1).length by omega, List.getD_eq_getElem?_getD] at h1 ⊢
          exact h1
      have HCL := Lib.hid hcl6
      clear htk hkey hqm hj hcl6
      go_wp2_with fail
      refine (HKC.out _).mono ?_
      rintro e w' ⟨rfl, rfl⟩
      rcases Nat.eq_zero_or_pos k with hz | hz
      · subst hz
        go_wp2_with (at_builtin; refine wpList_append_own _ rfl _ _ 24 rfl (w3.heap.size + 1) 2 i0 (.int .i64 0) 1 8 Try.underlying24 yi yz0 yz1 yz2 rfl (by decide) _ _ _ rfl (own.alloc _) ⟨wr.heap.size, 0, none⟩ 1 1 [.int .i64 x] rfl rfl ?c1 ?c2 ?c3 ?c4 ?c5 ?_)
        case c1 =>
          intro j u hj
          match j, hj with
          | 0, hj => simp at hj; subst hj; simp [Addr.add]
        case c2 => intro u hu; simp at hu; subst hu; rfl
        case c3 => unfold maxLen; omega
        case c4 => omega
        case c5 => simp; omega
        intro v5 w5 hown5 hgrow5 _
        have hS5 : w5.heap[w3.heap.size]? = some (.cells #[.int .i64 4, .slice a' n' c', .slice none 0 0] 28 (0, 0)) := (hgrow5.block w3.heap.size (by simp; omega) (fun e => by have := (own.lt _ e.symm).1; omega)).trans (heap_old HS.out)
        have HO5 : Hid (Owns w5 (w3.heap.size + 1) v5 ((keysC xs A1).take (0 + 1))) := by
          have hl : ((keysC xs A1).take (0 + 1)).length = 0 + 1 := by simp; omega
          unfold Hid Owns
          rw [hl, HTK.out, List.map_append]
          simpa using hown5
        obtain ⟨a5, n5, c5, rfl⟩ := HO5.out.form
        have hO5 := HO5.out
        unfold Owns at hO5
        rw [show ((keysC xs A1).take (0 + 1)).length = 0 + 1 by simp; omega] at hO5
        have HO5' := Lib.hid hO5
        have bel5 : Below w3.heap.size w3 w5 := (below_alloc_of bel _).grown hgrow5 (by simp; omega) (fun r hr => by have := (own.lt r hr).1; omega)
        obtain ⟨⟨m0, m1, m2⟩, ⟨n0, n1, n2⟩, hz5⟩ := box3 hS5
        have HS5 := Lib.hid hS5
        clear hown5 hgrow5 hS5 hO5
        go_wp2
        go_roundg (A1.length - (0))
        case measure => have := HN.out; omega
        case rel => exact ⟨0 + 1, _, _, _, by omega, by go_num, by have := HN.out; omega, ownsRow_setCell_below HO5'.out (by simp) _, heap_set HS5.out, bel5.setCell (by simp) _, fun i hi => by omega⟩
      · obtain ⟨i, rfl⟩ : ∃ i, k = i + 1 := ⟨k - 1, by omega⟩
        obtain ⟨gs, rfl, rfl, cp⟩ := HCL.out i (by omega)
        generalize hy : (keysC xs A1).getD i 0 = y at *
        have HY := Lib.hid hy
        clear hy
        have hi1 : ((i : Int) + 1) < (i : Int) + 1 + 1 := by omega
        have hi2 : (i : Int) < (i : Int) + 1 + 1 := by omega
        have hi3 : (0 : Int) < (i : Int) + 1 := by omega
        have hi4 : (i : Int) < (i : Int) + 1 := by omega
        by_cases hxy : x ≤ y
        · have hnr : ¬ risesB (keysC xs A1) = true := fun h => by
            have h2 := (rises_iff _).1 h i (by omega)
            rw [HY.out, HKEY.out] at h2
            omega
          go_wp2_with fail
          refine bodyPost_ret (results_shape (p := 4) (u := 5) rfl _ _ _ _ _ _ _ rfl (heap_set (heap_set (heap_set HR6.out))) Try.underlying28 rfl infoShape) rfl ?_
          unfold FinePost
          rw [if_neg hnr]
          exact ⟨none, 0, 0, rfl, owns_nil _ _, (((B3'.out.trans (bel.mono (by omega))).setCell (by simp) _).setCell (by simp) _).setCell (by simp) _⟩
        · have hxy' : ¬ (x ≤ y) := hxy
          go_wp2_with (at_builtin; refine wpList_append_own _ rfl _ _ 24 rfl (w3.heap.size + 1) 2 i0 (.int .i64 0) 1 8 Try.underlying24 yi yz0 yz1 yz2 rfl (by decide) _ _ _ rfl (own.alloc _) ⟨wr.heap.size, 0, none⟩ 1 1 [.int .i64 x] rfl rfl ?c1 ?c2 ?c3 ?c4 ?c5 ?_)
          case c1 =>
            intro j u hj
            match j, hj with
            | 0, hj => simp at hj; subst hj; simp [Addr.add]
          case c2 => intro u hu; simp at hu; subst hu; rfl
          case c3 => unfold maxLen; omega
          case c4 => omega
          case c5 => simp; omega
          intro v5 w5 hown5 hgrow5 _
          have hS5 : w5.heap[w3.heap.size]? = some (.cells #[.int .i64 4, .slice (some ⟨gs, 0, none⟩) (i + 1) c', .slice none 0 0] 28 (0, 0)) := (hgrow5.block w3.heap.size (by simp; omega) (fun e => by have := (own.lt _ e.symm).1; omega)).trans (heap_old HS.out)
          have HO5 : Hid (Owns w5 (w3.heap.size + 1) v5 ((keysC xs A1).take (i + 1 + 1))) := by
            have hl : ((keysC xs A1).take (i + 1 + 1)).length = i + 1 + 1 := by simp; omega
            unfold Hid Owns
            rw [hl, HTK.out, List.map_append]
            simpa using hown5
          obtain ⟨a5, n5, c5, rfl⟩ := HO5.out.form
          have hO5 := HO5.out
          unfold Owns at hO5
          rw [show ((keysC xs A1).take (i + 1 + 1)).length = i + 1 + 1 by simp; omega] at hO5
          have HO5' := Lib.hid hO5
          have bel5 : Below w3.heap.size w3 w5 := (below_alloc_of bel _).grown hgrow5 (by simp; omega) (fun r hr => by have := (own.lt r hr).1; omega)
          obtain ⟨⟨m0, m1, m2⟩, ⟨n0, n1, n2⟩, hz5⟩ := box3 hS5
          have HS5 := Lib.hid hS5
          clear hown5 hgrow5 hS5 hO5
          go_wp2
          go_roundg (A1.length - (i + 1))
          case measure => have := HN.out; omega
          case rel => exact ⟨i + 1 + 1, _, _, _, by omega, by go_num, by have := HN.out; omega, ownsRow_setCell_below HO5'.out (by simp) _, heap_set HS5.out, bel5.setCell (by simp) _, fun n hn => by
            by_cases e : n = i
            · subst e; rw [HY.out, HKEY.out]; omega
            · exact HRI.out n (by omega)⟩
    · have hkA : k = A1.length := by omega
      have hkl : (keysC xs A1).length = A1.length := by simp [keysC]
      have hyes : risesB (keysC xs A1) = true := (rises_iff _).2 (by rw [hkl, ← hkA]; exact HRI.out)
      have OWF : Hid (Owns wr (w3.heap.size + 1) (.slice a' n' c') (keysC xs A1)) := by
        have h := own
        rw [hkA, ← hkl, List.take_length] at h
        exact h
      have hklt : ¬ ((k : Int) < (A1.length : Int)) := by omega
      clear own hkA hlt
      go_wp2
      refine bodyPost_ret (results_shape (p := 4) (u := 5) rfl _ _ _ _ _ _ _ rfl (heap_set (heap_set (heap_set HR6.out))) Try.underlying28 rfl infoShape) rfl ?_
      unfold FinePost
      rw [if_pos hyes]
      refine ⟨_, _, _, rfl, ?_, (((B3'.out.trans (bel.mono (by omega))).setCell (by simp) _).setCell (by simp) _).setCell (by simp) _⟩
      exact Owns.le (ownsRow_setCell_below (ownsRow_setCell_below (ownsRow_setCell_below OWF.out (by simp; omega) _) (by simp; omega) _) (by simp; omega) _) (by omega)

theorem Shape_calls (w : World) (B : Nat) (most : Int) (a : Value) (xs : List Int) (ha : Reads w B a xs) (hB : B ≤ w.heap.size) :
    Calls Try.prog 15 #[.int .i64 most, a] w (ShapePost (shapeS most xs).1 (shapeS most xs).2.1 (shapeS most xs).2.2 w) := by
  unfold shapeS
  by_cases hok : shapeOk most xs = true
  · rw [if_pos hok]
    by_cases hu : usedOk most xs = true
    · by_cases hr : rowsOk xs = true
      · have h := Shape_fine w B most a xs ha hB hok hu hr
        by_cases hk : risesB (keysC xs (rowA xs).2.1) = true
        · rw [if_pos ⟨hu, hr, hk⟩]
          exact h.mono fun e w' h => by unfold FinePost at h; rwa [if_pos hk] at h
        · rw [if_neg (fun h => hk h.2.2)]
          exact h.mono fun e w' h => by unfold FinePost at h; rwa [if_neg hk] at h
      · rw [if_neg (fun h => hr h.2.1)]; exact Shape_rows w B most a xs ha hB hok hu (by simpa using hr)
    · rw [if_neg (fun h => hu h.1)]; exact Shape_used w B most a xs ha hB hok (by simpa using hu)
  · rw [if_neg hok]; exact Shape_bad w B most a xs ha (by simpa using hok)

theorem RefShape_calls (w : World) (B : Nat) (most : Int) (a : Value) (xs : List Int) (ha : Reads w B a xs) (hB : B ≤ w.heap.size) :
    Calls Try.prog 16 #[.int .i64 most, a] w (ShapePost (shapeS most xs).1 (shapeS most xs).2.1 (shapeS most xs).2.2 w) := by
  unfold shapeS
  by_cases hok : shapeOk most xs = true
  · rw [if_pos hok]
    by_cases hu : usedOk most xs = true
    · by_cases hr : rowsOk xs = true
      · have h := RefShape_fine w B most a xs ha hB hok hu hr
        by_cases hk : risesB (keysC xs (rowA xs).2.1) = true
        · rw [if_pos ⟨hu, hr, hk⟩]
          exact h.mono fun e w' h => by unfold FinePost at h; rwa [if_pos hk] at h
        · rw [if_neg (fun h => hk h.2.2)]
          exact h.mono fun e w' h => by unfold FinePost at h; rwa [if_neg hk] at h
      · rw [if_neg (fun h => hr h.2.1)]; exact RefShape_rows w B most a xs ha hB hok hu (by simpa using hr)
    · rw [if_neg (fun h => hu h.1)]; exact RefShape_used w B most a xs ha hB hok (by simpa using hu)
  · rw [if_neg hok]; exact RefShape_bad w B most a xs ha (by simpa using hok)

theorem shapeS_in (most : Int) (xs : List Int) (h : ∀ x ∈ xs, -9223372036854775808 ≤ x ∧ x ≤ 9223372036854775807) :
    (shapeS most xs).2.1.length ≤ 17592186043904 ∧ ∀ x ∈ (shapeS most xs).2.1, -9223372036854775808 ≤ x ∧ x ≤ 9223372036854775807 := by
  unfold shapeS
  split
  · split
    · refine ⟨?_, fun x hx => ?_⟩
      · have := (rows_len xs).1
        show (keysC xs (rowA xs).2.1).length ≤ _
        simp [keysC]
        omega
      · obtain ⟨p, -, rfl⟩ := List.mem_map.1 hx
        rw [List.getD_eq_getElem?_getD]
        cases he : xs[(keyI p).toNat]? with
        | none => simp
        | some y => exact h y (List.mem_of_getElem? he)
    · simp
  · simp

end Go.Proofs.Ytihlbhlagpmbjaa
