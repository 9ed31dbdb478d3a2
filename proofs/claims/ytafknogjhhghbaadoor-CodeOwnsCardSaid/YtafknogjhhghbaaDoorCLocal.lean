/- The walk of the law CodeLocal: an instruction hangs on its own bytes alone. -/
import Derived.Test.YtafknogjhhghbaaDoorCTells
import Derived.Deep.RegionHeld3
import Derived.Lib.Strings
import Derived.IntWalk
import Derived.Laws.Concat
namespace Go.Proofs.YtafknogjhhghbaaDoor
open Go.RowKit

theorem atS_ok {l : List UInt8} {a : Nat} (h1 : a < l.length) (h2 : byteN l a < 41) (h3 : a + 1 + widthN (shapeN (byteN l a)) ≤ l.length) :
    atS l a = if fitsB (shapeN (byteN l a)) (valueI (shapeN (byteN l a)) (leF l (a + 1) (widthN (shapeN (byteN l a))))) = true then
      ⟨byteN l a, valueI (shapeN (byteN l a)) (leF l (a + 1) (widthN (shapeN (byteN l a)))), 1 + widthN (shapeN (byteN l a)), 0⟩ else noSpot := by
  unfold atS
  rw [if_neg (by omega), Int.toNat_natCast, if_neg (by omega), if_neg (by omega)]

/-- Where something stands, its place and its width are in bounds. -/
theorem at_in {l : List UInt8} {a : Int} (h : (atS l a).err = 0) : ∃ a' : Nat, a = a' ∧ a' < l.length ∧ byteN l a' < 41 ∧ a' + 1 + widthN (shapeN (byteN l a')) ≤ l.length ∧ (atS l a).n = 1 + widthN (shapeN (byteN l a')) := by
  unfold atS at h ⊢
  by_cases h1 : a < 0 ∨ l.length ≤ a
  · rw [if_pos h1] at h; simp [noSpot] at h
  · rw [if_neg h1] at h ⊢
    by_cases h2 : 41 ≤ byteN l a.toNat
    · rw [if_pos h2] at h; simp [noSpot] at h
    · rw [if_neg h2] at h ⊢
      by_cases h3 : l.length < a.toNat + 1 + widthN (shapeN (byteN l a.toNat))
      · rw [if_pos h3] at h; simp [noSpot] at h
      · rw [if_neg h3] at h ⊢
        refine ⟨a.toNat, by omega, by omega, by omega, by omega, ?_⟩
        split
        · rfl
        · rename_i h4
          rw [if_neg h4] at h
          simp [noSpot] at h
theorem at_no {l : List UInt8} {a : Int} (h : (atS l a).err ≠ 0) : atS l a = noSpot := by
  unfold atS at h ⊢
  repeat' split at h
  all_goals first | rfl | simp_all

theorem byte_cut (l x y : List UInt8) (a n j : Nat) (h : a + n ≤ l.length) (hj : j < n) : byteN (x ++ (l.drop a).take n ++ y) (x.length + j) = byteN l (a + j) := by
  unfold byteN
  congr 1
  rw [List.getD_eq_getElem?_getD, List.getD_eq_getElem?_getD, List.append_assoc, List.getElem?_append_right (by omega), List.getElem?_append_left (by simp; omega), List.getElem?_take, if_pos (by omega), List.getElem?_drop]
  congr 2
  omega

/-- An instruction hangs on its own bytes alone. -/
theorem at_local {l : List UInt8} (x y : List UInt8) {a : Nat} (h : (atS l a).err = 0) : atS (x ++ (l.drop a).take (1 + widthN (shapeN (byteN l a))) ++ y) (x.length : Nat) = atS l a := by
  obtain ⟨a', e, h1, h2, h3, -⟩ := at_in h
  obtain rfl : a = a' := by omega
  have hb : byteN (x ++ (l.drop a).take (1 + widthN (shapeN (byteN l a))) ++ y) x.length = byteN l a := by
    have := byte_cut l x y a (1 + widthN (shapeN (byteN l a))) 0 (by omega) (by omega)
    simpa using this
  have hle : leF (x ++ (l.drop a).take (1 + widthN (shapeN (byteN l a))) ++ y) (x.length + 1) (widthN (shapeN (byteN l a))) = leF l (a + 1) (widthN (shapeN (byteN l a))) :=
    leF_congr _ _ _ _ _ (fun j hj => by
      have := byte_cut l x y a (1 + widthN (shapeN (byteN l a))) (1 + j) (by omega) (by omega)
      rwa [← Nat.add_assoc, ← Nat.add_assoc] at this)
  have hlen : (x ++ (l.drop a).take (1 + widthN (shapeN (byteN l a))) ++ y).length = x.length + (1 + widthN (shapeN (byteN l a))) + y.length := by simp; omega
  generalize hX : x ++ (l.drop a).take (1 + widthN (shapeN (byteN l a))) ++ y = X at *
  rw [atS_ok (l := X) (by omega) (by rw [hb]; exact h2) (by rw [hb]; omega), atS_ok h1 h2 h3, hb, hle]

theorem cell_alloc_old {w : World} {o : Obj} {p : Addr} {v : Value} (h : w.cell? p = some v) : (w.alloc o).cell? p = some v := by
  rw [World.cell?_alloc_lt _ _ _ (World.block_lt_of_cell? w _ h)]; exact h
theorem cell_set_ne {w : World} {p q : Addr} {v : Value} (h : q.block ≠ p.block) : (w.setCell p v).cell? q = w.cell? q := World.cell?_setCell_other _ _ _ _ (fun e => h (by rw [e]))
theorem Tabled.alloc {w : World} (h : Tabled w) (o : Obj) : Tabled (w.alloc o) := h.below h.1 (below_alloc w o)

set_option maxRecDepth 100000 in
set_option maxHeartbeats 2000000 in
theorem Local_walk (w : World) (s : ByteArray) (a : Int) (x y : ByteArray) (hs : s.size ≤ 140737488351232 ∧ x.size ≤ 140737488351232 ∧ y.size ≤ 140737488351232) (ht : Tabled w) :
    Calls Tryd.prog 5 #[.agg #[.string s, .int .i64 a, .string x, .string y]] w (True_ w) := by
  obtain ⟨hs, hx, hy⟩ := hs
  have h0 := ht.1
  have HT := Lib.hid ht
  have H1 := Lib.hid (fun w ht => CodeAt_calls w s a (by omega) ht)
  by_cases he : (atS s.data.toList a).err = 0
  · obtain ⟨a, rfl, g1, g2, g3, g4⟩ := at_in he
    have hl : s.data.toList.length = s.size := by simp
    rw [hl] at g1 g3
    have hwl := width_le (shapeN (byteN s.data.toList a))
    have hlc := at_local x.data.toList y.data.toList he
    generalize widthN (shapeN (byteN s.data.toList a)) = W at *
    have H2 := Lib.hid (fun w ht => CodeAt_calls w (x ++ s.extract a (a + (1 + W)) ++ y) (x.size : Int) (by simp [ByteArray.size_append, ByteArray.size_extract]; omega) ht)
    have hdata : (x ++ s.extract a (a + (1 + W)) ++ y).data.toList = x.data.toList ++ (s.data.toList.drop a).take (1 + W) ++ y.data.toList := by
      simp
    have hxl : x.data.toList.length = x.size := by simp
    rw [hxl] at hlc
    rw [hdata, hlc] at H2
    unfold Spot4.val at *
    generalize atS s.data.toList (a : Int) = z at *
    obtain ⟨zc, zo, zn, ze⟩ := z
    dsimp only at H1 H2 he g4
    subst he g4
    have ha' : (a : Int) + (1 + W) ≤ s.size := by omega
    clear ht hdata hlc hxl hl
    go_enter Tryd.func5, Tryd.ntmps5
    go_wp2_with fail
    refine (H1.out _ (HT.out.below h0 ((below_alloc _ _).mono (by omega)))).mono ?_
    rintro e1 w1 ⟨rfl, hb1⟩
    have hb01 := below_trans (below_alloc _ _) hb1
    have hg := box_keep hb1 (heap_new (w := w) rfl)
    have c0 := cell_of_row w1 _ 0 _ _ _ hg
    have c1 := cell_of_row w1 _ 1 _ _ _ hg
    have c2 := cell_of_row w1 _ 2 _ _ _ hg
    have c3 := cell_of_row w1 _ 3 _ _ _ hg
    simp at c0 c1 c2 c3
    have hz := (Array.getElem?_eq_some_iff.1 hg).1
    have HG := Lib.hid hg
    clear hg
    have HT1 := Lib.hid (HT.out.below h0 (hb01.mono (by omega)))
    go_wp2
    have hne := hz
    have b0 : (0 : Int) ≤ (a : Int) := by omega
    have hne2 : ¬ w.heap.size = w1.heap.size + 1 := by omega
    have b1 : (a : Int) ≤ (a : Int) + (1 + (W : Int)) := by omega
    have b2 : (0 : Int) ≤ (a : Int) + (1 + (W : Int)) := by omega
    have b3 : ((a : Int) + (1 + (W : Int))).toNat = a + (1 + W) := by omega
    have b4 : IntKind.i64.wrap ((a : Int) + (1 + (W : Int))) = (a : Int) + (1 + (W : Int)) := IntWalk.i64_in _ (by omega)
    have hs1 := fun w => run_string_add_sum (P := Tryd.prog) (w := w) x (s.extract a (a + (1 + W))) (by rw [ByteArray.size_extract]; omega)
    have hs2 := fun w => run_string_add_sum (P := Tryd.prog) (w := w) (x ++ s.extract a (a + (1 + W))) y (by rw [ByteArray.size_append, ByteArray.size_extract]; omega)
    go_region_held3 (fun w' => w'.cell? ⟨w.heap.size, 0, none⟩ = some (.string s) ∧ w'.cell? ⟨w.heap.size, 1, none⟩ = some (.int .i64 a) ∧ w'.cell? ⟨w.heap.size, 2, none⟩ = some (.string x) ∧ w'.cell? ⟨w.heap.size, 3, none⟩ = some (.string y)) (first | go_keep | (go_split_ands; refine ⟨?_, ?_, ?_, ?_⟩ <;> (rw [cell_set_ne (by simp; omega), cell_set_ne (by simp; omega)]; first | assumption | (go_simp; done)))) (first | (go_at_call 13; refine (H2.out _ (by first | exact HT1.out.alloc _ | exact (HT1.out.alloc _).alloc _)).mono ?_; rintro e2 w2 ⟨rfl, hb2⟩; have k0 := hb2.cell (p := ⟨w.heap.size, 0, none⟩) (by simp; omega); have k1 := hb2.cell (p := ⟨w.heap.size, 1, none⟩) (by simp; omega); have k2 := hb2.cell (p := ⟨w.heap.size, 2, none⟩) (by simp; omega); have k3 := hb2.cell (p := ⟨w.heap.size, 3, none⟩) (by simp; omega); have hbx := box_keep hb2 (g := w1.heap.size) (o := .cells #[.int .i64 zc, .int .i64 zo] 28 (0, 0)) (by first | exact heap_new rfl | exact heap_old (heap_new rfl)); obtain ⟨⟨m0, m1⟩, -, hlt2⟩ := box2 hbx; have n0 := fun o => cell_alloc_old (o := o) m0; have n1 := fun o => cell_alloc_old (o := o) m1; clear hbx; have hne4 : ¬ w1.heap.size = w2.heap.size := (by have := hb2.size; simp at this; omega); have HB2 := Lib.hid hb2; have hne3 : ¬ w.heap.size = w2.heap.size := (by have := hb2.size; simp at this; omega); have r0 : w1.heap.size + 1 < _ → _ := fun h => hb2.cell (p := ⟨w1.heap.size + 1, 0, none⟩) h; have r1 : w1.heap.size + 1 < _ → _ := fun h => hb2.cell (p := ⟨w1.heap.size + 1, 1, none⟩) h; have r2 : w1.heap.size + 1 < _ → _ := fun h => hb2.frozen (p := ⟨w1.heap.size + 1, 0, none⟩) h; have r3 : w1.heap.size + 1 < _ → _ := fun h => hb2.frozen (p := ⟨w1.heap.size + 1, 1, none⟩) h; (try simp at r0); (try simp at r1); (try simp at r2); (try simp at r3)))
    all_goals
      go_wp2
      go_ret
      refine ⟨rfl, ?_⟩
      have hz3 : w.heap.size ≤ w1.heap.size := by omega
      have hb02 : Below w.heap.size w (w1.alloc (.cells #[.int .i64 zc, .int .i64 zo] 28)).drew := (hb01.trans ((below_alloc w1 _).mono hz3)).trans ⟨rfl, rfl, rfl, Nat.le_refl _, fun _ _ => rfl⟩
      have hb03 : Below w.heap.size w ((w1.alloc (.cells #[.int .i64 zc, .int .i64 zo] 28)).alloc (.cells #[.int .i64 0, .int .i64 0] 28)).drew := (hb01.trans ((below_alloc_of (below_alloc w1 _) _).mono hz3)).trans ⟨rfl, rfl, rfl, Nat.le_refl _, fun _ _ => rfl⟩
      have hz5 : w.heap.size ≤ w1.heap.size + 1 := by omega
      first
        | exact (hb02.trans (HB2.out.mono hb02.size)).alloc (hb02.trans (HB2.out.mono hb02.size)).size _
        | exact ((hb03.trans (HB2.out.mono hb03.size)).setCell (p := ⟨w1.heap.size + 1, 0, none⟩) hz5 _).setCell (p := ⟨w1.heap.size + 1, 1, none⟩) hz5 _
  · have hno := at_no he
    rw [hno] at H1
    unfold Spot4.val noSpot at H1
    clear ht hno he
    go_enter Tryd.func5, Tryd.ntmps5
    go_wp2_with fail
    refine (H1.out _ (HT.out.below h0 ((below_alloc _ _).mono (by omega)))).mono ?_
    rintro e1 w1 ⟨rfl, hb1⟩
    have hb01 := below_trans (below_alloc _ _) hb1
    go_wp2
    go_ret
    exact ⟨rfl, hb01.alloc hb01.size _⟩

end Go.Proofs.YtafknogjhhghbaaDoor
