/- What cells say: contracts of Clone, of both Shapes of layer 15, of SameShape. -/
import Derived.Test.YtojenaghbfidlaaSizes
import Derived.Test.YtojenaghbfidlaaNums
import Derived.WalkSpells
import Derived.Deep.AppendLies
import Derived.Deep.RegionLaw
namespace Go.Proofs.Ytojenaghbfidlaa
open Go.RowKit

theorem infoShape : (Try.prog.info? 28).map (·.size) = some 3 := by kernel_rfl

theorem Owns.form {w : World} {base : Nat} {v : Value} {xs : List Int} (h : Owns w base v xs) : ∃ a n c, v = .slice a n c := by
  rcases h.2 with ⟨rfl, _⟩ | ⟨g, cap, cur, rfl, _⟩
  · exact ⟨_, _, _, rfl⟩
  · exact ⟨_, _, _, rfl⟩
theorem Owns.le {w : World} {base base' : Nat} {v : Value} {xs : List Int} (h : Owns w base v xs) (hb : base' ≤ base) : Owns w base' v xs :=
  ⟨h.1, h.2.elim Or.inl (fun ⟨g, cap, cur, hv, hg, r⟩ => Or.inr ⟨g, cap, cur, hv, Nat.le_trans hb hg, r⟩)⟩
theorem owns_nil (w : World) (base : Nat) : Owns w base (.slice none 0 0) [] := World.ownsRow_nil _ _ _ _

set_option maxHeartbeats 1000000 in
theorem Clone_calls (w : World) (B : Nat) (a : Value) (xs : List Int) (ha : Reads w B a xs) :
    Calls Try.prog 26 #[a] w (CopyOf xs w) := by
  obtain ⟨hxl, hxr, a, ca, rfl, hca, ha⟩ := ha
  obtain ⟨i0, hi, hz0, hz1, hz2⟩ := info_parts infoI64
  cases a with
  | none =>
    have hx : xs = [] := by
      rcases ha with h | ⟨b, off, h, -⟩
      · exact h
      · cases h
    subst hx
    have hq := fun w => Lib.run_eql_slice_nil (P := Try.prog) w 24 2 none 0 ca 0 0 Try.underlying24
    clear ha hxr
    go_enter Try.func26, Try.ntmps26
    go_wp2
    go_ret
    exact ⟨_, rfl, owns_nil _ _, Below.refl _ _⟩
  | some ad =>
    have hq := fun w => Lib.run_eql_slice_nil (P := Try.prog) w 24 2 (some ad) xs.length ca 0 0 Try.underlying24
    have hnews : ∀ (j : Nat) (u : Value), (xs.map (Value.int .i64))[j]? = some u → w.cell? (ad.add j) = some u := by
      intro j u hj
      rcases ha with h | ⟨b, off, h, -, hc⟩
      · subst h; simp at hj
      · injection h with h
        subst h
        have hjl : j < xs.length := by
          rcases Nat.lt_or_ge j xs.length with h | h
          · exact h
          · rw [List.getElem?_eq_none (by simpa using h)] at hj; cases hj
        have := hc j hjl
        have hadd : (⟨b, off, none⟩ : Addr).add j = ⟨b, off + j, none⟩ := by unfold Addr.add; split <;> simp_all
        rw [hadd, this]
        simp [hjl] at hj
        simp [List.getD_eq_getElem?_getD, hjl, hj]
    have hlt : ∀ (j : Nat) (u : Value), (xs.map (Value.int .i64))[j]? = some u → ad.block < w.heap.size := by
      intro j u hj
      have := World.block_lt_of_cell? w _ (hnews j u hj)
      unfold Addr.add at this
      split at this <;> simpa using this
    have HN : Hid (∀ (j : Nat) (u : Value), (xs.map (Value.int .i64))[j]? = some u → (w.alloc (.cells #[] 2)).cell? (ad.add j) = some u) := by
      intro j u hj
      rw [World.cell?_alloc_lt _ _ _ (by have := hlt j u hj; unfold Addr.add; split <;> simpa using this)]
      exact hnews j u hj
    have hown : (w.alloc (.cells #[] 2)).ownsRow w.heap.size 2 1 (.slice (some ⟨w.heap.size, 0, none⟩) 0 0) 0 [] := World.ownsRow_made _ #[] 0 (Nat.le_refl _) (Nat.zero_le _) rfl
    have HXR := Lib.hid hxr
    clear ha hxr hnews hlt
    go_enter Try.func26, Try.ntmps26
    go_wp2_with (at_builtin; refine wpList_append_own _ rfl _ _ 24 rfl w.heap.size 2 i0 (.int .i64 0) 1 8 Try.underlying24 hi hz0 hz1 hz2 rfl (by decide) _ _ _ rfl hown ad xs.length ca (xs.map (Value.int .i64)) rfl (by simp) HN.out (by simp [Value.oneCell']) (by unfold maxLen; omega) (by omega) (by simp) ?_)
    intro v' w1 hown' hgrow _
    have hb1 : Below w.heap.size w w1 := (below_alloc w _).grown hgrow (by simp) (fun r hr => by simp [Value.ownBlock] at hr; omega)
    go_wp2
    go_ret
    exact ⟨_, rfl, by simpa [Owns] using hown', hb1⟩

/-- What a Shape leaves. -/
def ShapePost (k : Int) (vals : List Int) (err : Int) (w : World) (e : Ending) (w' : World) : Prop :=
  ∃ a n c, e = .returned (.tuple #[.agg #[.int .i64 k, .slice a n c, .slice none 0 0], .int .i64 err]) ∧ Owns w' w.heap.size (.slice a n c) vals ∧ Below w.heap.size w w'

theorem results_shape {P : Program} {fn : Func} {p u : Tmp} {ty : TypeId} (h : fn.results = #[.cell p ty, .tmp u]) (tmps : Array Value) (w : World) (g : Nat) (t : TypeId) (cs : Array Value) (fr : Nat × Nat) (d : TypeDesc)
    (hp : tmps.getD p undef = .pointer (some ⟨g, 0, none⟩)) (hg : w.heap[g]? = some (.cells cs t fr))
    (hu : P.underlying ty = some d) (hd : (match d with | .struct _ | .array _ _ => true | _ => false) = true) (hi : (P.info? ty).map (·.size) = some cs.size) :
    (results fn tmps).run P w = .ok (.tuple #[.agg cs, tmps.getD u undef]) w := by
  rw [results_cell_tmp h]
  rw [hp]
  simp [asAddr, run_loadVar_row w g t ty cs fr d hg hu hd hi, Result.andThen]

theorem box3 {w : World} {g : Nat} {a b c : Value} {t : TypeId} (h : w.heap[g]? = some (.cells #[a, b, c] t (0, 0))) :
    (w.cell? ⟨g, 0, none⟩ = some a ∧ w.cell? ⟨g, 1, none⟩ = some b ∧ w.cell? ⟨g, 2, none⟩ = some c) ∧
    (w.frozen? ⟨g, 0, none⟩ = false ∧ w.frozen? ⟨g, 1, none⟩ = false ∧ w.frozen? ⟨g, 2, none⟩ = false) ∧ g < w.heap.size := by
  have hc := fun j => cell_of_row w g j _ _ _ h
  have hf := fun j => frozen_of_row w g j _ _ h
  refine ⟨⟨?_, ?_, ?_⟩, ⟨hf 0, hf 1, hf 2⟩, (Array.getElem?_eq_some_iff.1 h).1⟩
  · simpa using hc 0
  · simpa using hc 1
  · simpa using hc 2

def shapeOk (most : Int) (cells : List Int) : Bool := decide ((0 ≤ most ∧ most ≤ 16) ∧ (cells.length : Int) = sizeI most)

set_option maxHeartbeats 1000000 in
theorem Shape_calls (w : World) (B : Nat) (most : Int) (a : Value) (xs : List Int) (ha : Reads w B a xs) (hB : B ≤ w.heap.size) :
    Calls Try.prog 14 #[.int .i64 most, a] w (if shapeOk most xs = true then ShapePost 1 xs 0 w else ShapePost 0 [] 1 w) := by
  have HA := Lib.hid ha
  obtain ⟨hxl, hxr, a, ca, rfl, hca, ha⟩ := ha
  clear ha hxr
  by_cases hok : shapeOk most xs = true
  · rw [if_pos hok]
    obtain ⟨⟨h0, h1⟩, hl⟩ := of_decide_eq_true hok
    rw [sizeI_in h0 h1] at hl
    have hl' : ((xs.length : Int) != most) = false := by simpa using hl
    clear hok hl
    go_enter Try.func14, Try.ntmps14
    go_wp2_with fail
    refine (Clone_calls _ B _ xs (HA.out.below ((Below.refl _ _).alloc hB _))).mono ?_
    rintro e w1 ⟨v', rfl, hr, hb1⟩
    obtain ⟨a', n, c, rfl⟩ := hr.form
    have hg1 := box_keep hb1 (heap_new (w := w) rfl)
    obtain ⟨⟨c0, c1, c2⟩, ⟨f0, f1, f2⟩, hz⟩ := box3 hg1
    have HG := Lib.hid hg1
    have HR : Owns w1 (w.heap.size + 1) (.slice a' n c) xs := by rwa [World.size_alloc] at hr
    clear hg1 hr
    go_wp2
    refine bodyPost_ret (v := .tuple #[.agg #[.int .i64 1, .slice a' n c, .slice none 0 0], .int .i64 0]) (results_shape (p := 4) (u := 5) rfl _ _ _ _ #[.int .i64 1, .slice a' n c, .slice none 0 0] _ _ rfl (heap_set (heap_set (heap_set HG.out))) Try.underlying28 rfl infoShape) rfl ⟨a', n, c, rfl, ?_, ?_⟩
    · exact Owns.le (ownsRow_setCell_below (ownsRow_setCell_below (ownsRow_setCell_below HR (by simp) _) (by simp) _) (by simp) _) (by omega)
    · exact (((below_trans (below_alloc _ _) hb1).setCell (by simp) _).setCell (by simp) _).setCell (by simp) _
  · rw [if_neg hok]
    have hno := of_decide_eq_false (by simpa using hok : shapeOk most xs = false)
    clear hok
    rcases (show most < 0 ∨ (0 ≤ most ∧ 16 < most) ∨ (0 ≤ most ∧ most ≤ 16 ∧ ¬ (xs.length : Int) = sizeI most) from by omega) with h | ⟨h, h1⟩ | ⟨h, h1, h2⟩
    case' inr.inr => rw [sizeI_in h h1] at h2; have h2' : ((xs.length : Int) != most) = true := (by simpa using h2); clear h2
    all_goals
      clear hno
      go_enter Try.func14, Try.ntmps14
      go_wp2
      refine bodyPost_ret (results_shape (p := 4) (u := 5) rfl _ _ _ _ _ _ _ rfl (heap_new rfl) Try.underlying28 rfl infoShape) rfl ⟨none, 0, 0, rfl, owns_nil _ _, below_alloc _ _⟩

/-- A slice of the call's own under stores and calls that leave its block alone. -/
theorem Owns.below {w w' : World} {base : Nat} {v : Value} {xs : List Int} (h : Owns w base v xs) (hb : Below w.heap.size w w') : Owns w' base v xs :=
  h.kept ⟨hb.os, hb.tape, hb.output, hb.size, fun k hk _ => hb.block k hk⟩ (row := none) (by cases v.ownBlock <;> simp)

set_option maxHeartbeats 2000000 in
theorem SameShape_calls (w : World) (ka kb : Int) (a b : Value) (xs ys : List Int) (ha : Reads w w.heap.size a xs) (hb : Reads w w.heap.size b ys) :
    Calls Try.prog 16 #[.agg #[.int .i64 ka, a, .slice none 0 0], .agg #[.int .i64 kb, b, .slice none 0 0]] w (Gives (.bool (decide (xs = ys ∧ ka = kb))) w) := by
  have h2 : Below w.heap.size w ((w.alloc (.cells #[.int .i64 ka, a, .slice none 0 0] 28)).alloc (.cells #[.int .i64 kb, b, .slice none 0 0] 28)) := below_alloc_of (below_alloc _ _) _
  have HA := Lib.hid (ha.below h2)
  have HB := Lib.hid (hb.below h2)
  have H2 := Lib.hid h2
  clear ha hb h2
  go_enter Try.func16, Try.ntmps16
  go_wp2_with fail
  refine (SameNumbers_calls _ _ _ _ xs ys HA.out HB.out).mono ?_
  rintro e w1 ⟨rfl, hb1⟩
  have hg1 := box_keep hb1 (heap_old (heap_new (w := w) rfl))
  have hg2 := box_keep hb1 (heap_new (n := w.heap.size + 1) (by simp))
  obtain ⟨⟨c0, c1, c2⟩, -, hz⟩ := box3 hg1
  obtain ⟨⟨d0, d1, d2⟩, -, hz2⟩ := box3 hg2
  clear hg1 hg2
  have hbel := H2.out.trans (hb1.mono (by simp; omega))
  by_cases hx : xs = ys
  · rw [decide_eq_true hx]
    by_cases hk : ka = kb
    · have hfin : decide (xs = ys ∧ ka = kb) = true := decide_eq_true ⟨hx, hk⟩
      have HF := Lib.hid hfin
      subst hk
      clear hfin hx
      go_wp2_with fail
      refine wp_loop_rounds 1 ?_
      rw [rounds_succ]
      go_wp2
      go_ret
      exact ⟨by rw [HF.out]; rfl, hbel⟩
    · have hfin : decide (xs = ys ∧ ka = kb) = false := decide_eq_false (fun h => hk h.2)
      have HF := Lib.hid hfin
      have hk' : (ka != kb) = true := by simpa using hk
      clear hfin hx hk
      go_wp2
      go_ret
      exact ⟨by rw [HF.out]; rfl, hbel⟩
  · rw [decide_eq_false hx]
    have hfin : decide (xs = ys ∧ ka = kb) = false := decide_eq_false (fun h => hx h.1)
    have HF := Lib.hid hfin
    clear hfin hx
    go_wp2
    go_ret
    exact ⟨by rw [HF.out]; rfl, hbel⟩

end Go.Proofs.Ytojenaghbfidlaa
