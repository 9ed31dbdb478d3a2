/- What the chain's cells say: the contract of the reference's Shape, its refusals. -/
import Derived.Test.YtihlbhlagpmbjaaShapeP18
import Derived.OwnWalk
namespace Go.Proofs.Ytihlbhlagpmbjaa
open Go.RowKit

theorem infoBool : (Try.prog.info? 4).map (fun i => (i.zero, i.size, i.bytes)) = some (some (.bool false), 1, 1) := by kernel_rfl
theorem seenB_made {w : World} {base b u c : Nat} (h : w.ownsRow base 4 1 (.slice (some ⟨b, 0, none⟩) (u + 1) c) (u + 1) (madeCells (Value.bool false).cells ((u + 1) * 1)).toList) : SeenB w b u [] := by
  rcases h.2 with ⟨h3, _⟩ | ⟨g', cap, cur, hv, hb, hg, hnc, _, hcs, htk⟩
  · cases h3
  · injection hv with e1 _ _
    injection e1 with e1
    injection e1 with e1 _ _
    subst e1
    refine ⟨cur, hg, by omega, fun i hi => ?_⟩
    have h1 : (cur.toList.take ((u + 1) * 1))[i]? = (madeCells (Value.bool false).cells ((u + 1) * 1)).toList[i]? := by rw [htk]
    rw [Nat.mul_one, List.getElem?_take, if_pos (by omega)] at h1
    have h2 : (madeCells (Value.bool false).cells (u + 1)).toList[i]? = some (.bool false) := by
      unfold madeCells
      simp [Value.cells, Nat.mod_one, show i < u + 1 by omega]
    rw [h2] at h1
    simpa using h1
theorem OwnsI.opened {w : World} {base : Nat} {v : Value} {xs : List Int} (h : OwnsI w base v xs) : ∃ a c, v = .slice a xs.length c ∧ xs.length ≤ c ∧ (xs = [] ∨ ∃ g, a = some ⟨g, 0, none⟩ ∧ base ≤ g ∧ g < w.heap.size ∧ ∀ i, i < xs.length → w.cell? ⟨g, i, none⟩ = some (.int .i64 (xs.getD i 0))) := by
  rcases h.2 with ⟨rfl, h1⟩ | ⟨g', cap, cur, hv, hb, hg, hnc, _, hcs, htk⟩
  · have h2 : xs = [] := by simpa using h1
    subst h2
    exact ⟨none, 0, rfl, Nat.le_refl _, .inl rfl⟩
  · subst hv
    refine ⟨_, cap, rfl, hnc, .inr ⟨g', rfl, hb, (Array.getElem?_eq_some_iff.1 hg).1, fun i hi => ?_⟩⟩
    have h1 : (cur.toList.take (xs.length * 1))[i]? = (xs.map (Value.int .i64))[i]? := by rw [htk]
    rw [Nat.mul_one, List.getElem?_take, if_pos hi] at h1
    rw [cell_of_row w g' i _ _ _ hg]
    simp [hi, List.getD_eq_getElem?_getD] at h1 ⊢
    exact h1
theorem OwnsI.keep {w w' : World} {base : Nat} {v : Value} {xs : List Int} {r : Option Nat} (h : OwnsI w base v xs) (hg : w.grownBy w' r) (hr : ∀ q, r = some q → q < base) : OwnsI w' base v xs :=
  World.ownsRow.kept h hg (by
    cases r with
    | none => cases v.ownBlock <;> simp
    | some q => exact .inr fun e => by have := (h.lt q e).1; have := hr q rfl; omega)

set_option maxRecDepth 100000 in
set_option maxHeartbeats 1000000 in
theorem RefShape_bad (w : World) (B : Nat) (most : Int) (a : Value) (xs : List Int) (ha : Reads w B a xs) (hno : shapeOk most xs = false) :
    Calls Try.prog 16 #[.int .i64 most, a] w (ShapePost 0 [] 1 w) := by
  obtain ⟨hxl, hxr, a, ca, rfl, hca, ha⟩ := ha
  clear ha hxr
  have hno := of_decide_eq_false hno
  by_cases hr : rightB most = true
  · have hh := of_decide_eq_true hr
    have h2' : ((xs.length : Int) != sizeI most) = true := by simpa using (show ¬ (xs.length : Int) = sizeI most from fun e => hno ⟨hh, e⟩)
    clear hno hh
    go_enter Try.func16, Try.ntmps16
    go_wp2_with (first | (go_at_call 27; refine (Right_calls _ _).mono ?_; rintro e w' ⟨rfl, rfl⟩) | (go_at_call 13; refine (RefSize_calls _ _).mono ?_; rintro e w' ⟨rfl, rfl⟩))
    refine bodyPost_ret (results_shape (p := 4) (u := 5) rfl _ _ _ _ _ _ _ rfl (heap_new rfl) Try.underlying28 rfl infoShape) rfl ⟨none, 0, 0, rfl, owns_nil _ _, below_alloc _ _⟩
  · have hr' : rightB most = false := by simpa using hr
    clear hno hr
    go_enter Try.func16, Try.ntmps16
    go_wp2_with (first | (go_at_call 27; refine (Right_calls _ _).mono ?_; rintro e w' ⟨rfl, rfl⟩))
    refine bodyPost_ret (results_shape (p := 4) (u := 5) rfl _ _ _ _ _ _ _ rfl (heap_new rfl) Try.underlying28 rfl infoShape) rfl ⟨none, 0, 0, rfl, owns_nil _ _, below_alloc _ _⟩

set_option maxRecDepth 100000 in
set_option maxHeartbeats 2000000 in
theorem RefShape_used (w : World) (B : Nat) (most : Int) (a : Value) (xs : List Int) (ha : Reads w B a xs) (hB : B ≤ w.heap.size) (hok : shapeOk most xs = true) (hu : usedOk most xs = false) :
    Calls Try.prog 16 #[.int .i64 most, a] w (ShapePost 0 [] 12 w) := by
  obtain ⟨hxl, hxr, a, ca, rfl, hca, ha⟩ := ha
  obtain ⟨⟨h0, h1⟩, hl⟩ := of_decide_eq_true hok
  have hl' : ((xs.length : Int) != sizeI most) = false := by simpa using hl
  have hrb := rightB_t h0 h1
  rw [sizeI_in h0 h1] at hl
  rcases ha with h | ⟨b, off, rfl, hBb, hcell⟩
  · subst h; simp at hl; omega
  have c2 := hcell 2 (by omega)
  have hu := of_decide_eq_false hu
  unfold usedC at hu
  generalize xs.getD 2 0 = u at *
  have hbs : b < w.heap.size := by omega
  have hbne : b ≠ w.heap.size := by omega
  have hx2 : (2 : Int) < xs.length := by omega
  clear hok hcell hxr hl
  rcases (show u < 0 ∨ (0 ≤ u ∧ most < u) from by omega) with h | ⟨h, h2⟩
  all_goals
    clear hu
    go_enter Try.func16, Try.ntmps16
    go_wp2_with (first | (go_at_call 27; refine (Right_calls _ _).mono ?_; rintro e w' ⟨rfl, rfl⟩) | (go_at_call 13; refine (RefSize_calls _ _).mono ?_; rintro e w' ⟨rfl, rfl⟩))
    refine bodyPost_ret (results_shape (p := 4) (u := 5) rfl _ _ _ _ _ _ _ rfl (heap_new rfl) Try.underlying28 rfl infoShape) rfl ⟨none, 0, 0, rfl, owns_nil _ _, below_alloc _ _⟩

end Go.Proofs.Ytihlbhlagpmbjaa
