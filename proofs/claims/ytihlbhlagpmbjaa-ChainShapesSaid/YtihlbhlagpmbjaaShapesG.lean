/- The walk of the law Shapes. -/
import Derived.Test.YtihlbhlagpmbjaaRefShapeQ18
namespace Go.Proofs.Ytihlbhlagpmbjaa
open Go.RowKit

set_option maxHeartbeats 4000000 in
theorem shapes_core (w : World) (most : Int) (v : Value) (xs vals : List Int) (k err : Int) (ha : Reads w w.heap.size v xs) (hvl : vals.length ≤ 17592186043904) (hvr : ∀ x ∈ vals, -9223372036854775808 ≤ x ∧ x ≤ 9223372036854775807)
    (h1 : ∀ w, ∀ B, Reads w B v xs → B ≤ w.heap.size → Calls Try.prog 15 #[.int .i64 most, v] w (ShapePost k vals err w))
    (h2 : ∀ w v', ∀ B, Reads w B v' xs → B ≤ w.heap.size → Calls Try.prog 16 #[.int .i64 most, v'] w (ShapePost k vals err w)) :
    Calls Try.prog 4 #[.int .i64 most, v] w (True_ w) := by
  have hxl := ha.1
  have HXR := Lib.hid ha.2.1
  have HA := Lib.hid ha
  have H1 := Lib.hid h1
  have H2 := Lib.hid h2
  have HVR := Lib.hid hvr
  clear ha h1 h2 hvr
  go_enter Try.func4, Try.ntmps4
  go_wp2_with fail
  refine (numbers_calls _ _ _ xs HA.out (Nat.le_refl _)).mono ?_
  rintro e w1 ⟨v1, rfl, own1, hb1⟩
  have HR1 := Lib.hid (own1.reads hxl HXR.out)
  clear own1
  go_wp2_with fail
  refine (H1.out _ _ (HA.out.below hb1) hb1.size).mono ?_
  rintro e w2 ⟨a2, n2, c2, rfl, own2, hb2⟩
  have HO2 := Lib.hid own2
  clear own2
  go_wp2_with fail
  refine (H2.out _ _ _ ((HR1.out.below hb2).below (below_alloc_of (Below.refl _ _) _ |>.mono hb2.size)) (by have := hb2.size; simp; omega)).mono ?_
  rintro e w3 ⟨a3, n3, c3, rfl, own3, hb3⟩
  have hz2 := hb2.size
  have hz3 : w2.heap.size + 1 ≤ w3.heap.size := by have := hb3.size; simpa using this
  have hg2 := box_keep hb3 (heap_new (w := w2) rfl)
  obtain ⟨⟨c0, c1, c2'⟩, -, hlt2⟩ := box3 hg2
  have HG2 := Lib.hid hg2
  have hb23 : Below w2.heap.size w2 w3 := (below_alloc _ _).trans (hb3.mono (by simp))
  have HO2' := Lib.hid (HO2.out.below hb23)
  have HO3 := Lib.hid own3
  clear hg2 own3
  go_wp2_with fail
  have HB4 := Lib.hid (below_alloc w3 (.cells #[.int .i64 k, .slice a3 n3 c3, .slice none 0 0] 28))
  refine (SameShape_calls _ k k _ _ vals vals ((HO2'.out.below HB4.out).reads hvl HVR.out) ((HO3.out.below HB4.out).reads hvl HVR.out)).mono ?_
  rintro e w5 ⟨rfl, hb5⟩
  rw [decide_eq_true (show vals = vals ∧ k = k from ⟨rfl, rfl⟩)]
  have hg5 := box_keep hb5 (heap_old HG2.out)
  have hg6 := box_keep hb5 (heap_new (w := w3) rfl)
  obtain ⟨⟨d0, d1, d2⟩, -, hlt5⟩ := box3 hg5
  obtain ⟨⟨e0, e1, e2⟩, -, hlt6⟩ := box3 hg6
  have HG5 := Lib.hid hg5
  have HG6 := Lib.hid hg6
  have hb15 : Below w1.heap.size w1 w5 := ((((hb2.trans (hb23.mono hz2)).alloc (by omega) _).trans (hb5.mono (by simp; omega))))
  have hb05 := below_trans hb1 hb15
  clear hg5 hg6 c0 c1 c2'
  go_wp2_with fail
  refine (SameNumbers_calls _ _ _ _ xs xs ((HA.out.below hb05).mono (Nat.le_trans hb1.size hb15.size)) ((HR1.out.below hb15).mono hb15.size)).mono ?_
  rintro e w6 ⟨rfl, hb6⟩
  rw [decide_eq_true rfl]
  have hg7 := box_keep hb6 HG5.out
  have hg8 := box_keep hb6 HG6.out
  clear d0 d1 d2 e0 e1 e2
  obtain ⟨⟨d0, d1, d2⟩, -, hlt7⟩ := box3 hg7
  obtain ⟨⟨e0, e1, e2⟩, -, hlt8⟩ := box3 hg8
  clear hg7 hg8
  go_wp2
  go_ret
  exact ⟨rfl, hb05.trans (hb6.mono (by have := hb05.size; omega))⟩

theorem Shapes_walk (w : World) (most : Int) (v : Value) (xs : List Int) (ha : Reads w w.heap.size v xs) :
    Calls Try.prog 4 #[.int .i64 most, v] w (True_ w) := by
  have h := shapeS_in most xs ha.2.1
  exact shapes_core w most v xs (shapeS most xs).2.1 (shapeS most xs).1 (shapeS most xs).2.2 ha h.1 h.2 (fun w B hr hB => Shape_calls w B most v xs hr hB) (fun w v' B hr hB => RefShape_calls w B most v' xs hr hB)

end Go.Proofs.Ytihlbhlagpmbjaa
