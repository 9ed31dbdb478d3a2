/- The contract of the reference's Shape of layer 16, and what both Shapes say. -/
import Derived.Test.YtdacadhiogikdaaShape16
namespace Go.Proofs.Ytdacadhiogikdaa
open Go.RowKit

theorem u64_in (k : Nat) (h : (k : Int) ≤ 16) : IntKind.u64.wrap (k : Int) = k := by rw [u64_wrap]; unfold u64; omega
theorem Behind_at (w : World) (f k n : Int) (d : Nat) (h1 : 1 ≤ n) (h2 : n ≤ 16) (hk : 0 ≤ k) (hk2 : k ≤ 18446744073709551615) (hd : behindI f k n = d) :
    Calls Try.prog 27 #[.int .i64 f, .int .u64 k, .int .i64 n] w (Drew (.int .i64 d) w) := hd ▸ Behind_calls w f k n h1 h2 hk hk2

set_option maxRecDepth 100000 in
set_option maxHeartbeats 1000000 in
theorem RefShape_bad (w : World) (B : Nat) (most : Int) (a : Value) (xs : List Int) (ha : Reads w B a xs) (hno : shapeOk most xs = false) :
    Calls Try.prog 15 #[.int .i64 most, a] w (ShapePost 0 [] 1 w) := by
  obtain ⟨hxl, hxr, a, ca, rfl, hca, ha⟩ := ha
  clear ha hxr
  have hno := of_decide_eq_false hno
  by_cases hr : rightB most = true
  · have hh := of_decide_eq_true hr
    have h2' : ((xs.length : Int) != sizeI most) = true := by simpa using (show ¬ (xs.length : Int) = sizeI most from fun e => hno ⟨hh, e⟩)
    clear hno hh
    go_enter Try.func15, Try.ntmps15
    go_wp2_with (first | (go_at_call 25; refine (Right_calls _ _).mono ?_; rintro e w' ⟨rfl, rfl⟩) | (go_at_call 12; refine (RefSize_calls _ _).mono ?_; rintro e w' ⟨rfl, rfl⟩))
    refine bodyPost_ret (results_shape (p := 4) (u := 5) rfl _ _ _ _ _ _ _ rfl (heap_new rfl) Try.underlying28 rfl infoShape) rfl ⟨none, 0, 0, rfl, owns_nil _ _, below_alloc _ _⟩
  · have hr' : rightB most = false := by simpa using hr
    clear hno hr
    go_enter Try.func15, Try.ntmps15
    go_wp2_with (first | (go_at_call 25; refine (Right_calls _ _).mono ?_; rintro e w' ⟨rfl, rfl⟩))
    refine bodyPost_ret (results_shape (p := 4) (u := 5) rfl _ _ _ _ _ _ _ rfl (heap_new rfl) Try.underlying28 rfl infoShape) rfl ⟨none, 0, 0, rfl, owns_nil _ _, below_alloc _ _⟩

set_option maxRecDepth 100000 in
set_option maxHeartbeats 2000000 in
theorem RefShape_range (w : World) (B : Nat) (most : Int) (a : Value) (xs : List Int) (ha : Reads w B a xs) (hB : B ≤ w.heap.size) (hok : shapeOk most xs = true) (hr : rangeOk most (xs.getD 0 0) (xs.getD 1 0) = false) :
    Calls Try.prog 15 #[.int .i64 most, a] w (ShapePost 0 [] 12 w) := by
  obtain ⟨hxl, hxr, a, ca, rfl, hca, ha⟩ := ha
  obtain ⟨⟨h0, h1⟩, hl⟩ := of_decide_eq_true hok
  have hl' : ((xs.length : Int) != sizeI most) = false := by simpa using hl
  rw [sizeI_in h0 h1] at hl
  rcases ha with h | ⟨b, off, rfl, hBb, hcell⟩
  · subst h; simp at hl; omega
  have c0 := hcell 0 (by omega)
  have c1 := hcell 1 (by omega)
  rw [Nat.add_zero] at c0
  have hr := of_decide_eq_false hr
  have hrb := rightB_t h0 h1
  generalize xs.getD 0 0 = f at *
  generalize xs.getD 1 0 = l at *
  have hbs : b < w.heap.size := by omega
  have hbne : b ≠ w.heap.size := by omega
  have hx2 : (1 : Int) < xs.length := by omega
  have hx1 : (0 : Int) < xs.length := by omega
  clear hok hcell hxr hl
  rcases (show l < 0 ∨ (0 ≤ l ∧ most < l) ∨ (0 ≤ l ∧ l ≤ most ∧ f < 0) ∨ (0 ≤ l ∧ l ≤ most ∧ 0 ≤ f ∧ 0 < f ∧ most ≤ f) from by omega) with h | ⟨h, h2⟩ | ⟨h, h2, h3⟩ | ⟨h, h2, h3, h4, h5⟩
  all_goals
    clear hr
    go_enter Try.func15, Try.ntmps15
    go_wp2_with (first | (go_at_call 25; refine (Right_calls _ _).mono ?_; rintro e w' ⟨rfl, rfl⟩) | (go_at_call 12; refine (RefSize_calls _ _).mono ?_; rintro e w' ⟨rfl, rfl⟩))
    refine bodyPost_ret (results_shape (p := 4) (u := 5) rfl _ _ _ _ _ _ _ rfl (heap_new rfl) Try.underlying28 rfl infoShape) rfl ⟨none, 0, 0, rfl, owns_nil _ _, below_alloc _ _⟩

set_option maxRecDepth 100000 in
set_option maxHeartbeats 4000000 in
theorem RefShape_good (w : World) (B : Nat) (most : Int) (a : Value) (xs : List Int) (ha : Reads w B a xs) (hB : B ≤ w.heap.size) (hok : shapeOk most xs = true) (hr : rangeOk most (xs.getD 0 0) (xs.getD 1 0) = true) :
    Calls Try.prog 15 #[.int .i64 most, a] w (ShapePost 2 (rowI most (xs.getD 0 0) xs (xs.getD 1 0).toNat) 0 w) := by
  obtain ⟨hxl, hxr, a, ca, rfl, hca, ha⟩ := ha
  obtain ⟨i0, hi, hz0, hz1, hz2⟩ := info_parts infoI64
  obtain ⟨⟨h0, h1⟩, hl⟩ := of_decide_eq_true hok
  have hl' : ((xs.length : Int) != sizeI most) = false := by simpa using hl
  rw [sizeI_in h0 h1] at hl
  rcases ha with h | ⟨b, off, rfl, hBb, hcell⟩
  · subst h; simp at hl; omega
  have c0 := hcell 0 (by omega)
  have c1 := hcell 1 (by omega)
  rw [Nat.add_zero] at c0
  have hr := of_decide_eq_true hr
  have HCE := Lib.hid hcell
  generalize xs.getD 0 0 = f at *
  generalize xs.getD 1 0 = l at *
  have hbs : b < w.heap.size := by omega
  have hbne : b ≠ w.heap.size := by omega
  have hx2 : (1 : Int) < xs.length := by omega
  have hx1 : (0 : Int) < xs.length := by omega
  obtain ⟨r0, r1, r2, r3⟩ := hr
  obtain ⟨l, rfl⟩ := Int.eq_ofNat_of_zero_le r0
  have hrb := rightB_t h0 h1
  have r4 : 0 ≤ most ∧ f ≤ 0 ∨ 0 < f ∧ f < most := by omega
  have hxl2 : (xs.length : Int) ≤ 18 := by omega
  have HL := Lib.hid hl
  clear hok hcell hxr hl r3
  rcases r4 with ⟨r4, r5⟩ | ⟨r4, r5⟩
  all_goals
    go_enter Try.func15, Try.ntmps15
    go_wp2_with (first | (go_at_call 25; refine (Right_calls _ _).mono ?_; rintro e w' ⟨rfl, rfl⟩) | (go_at_call 12; refine (RefSize_calls _ _).mono ?_; rintro e w' ⟨rfl, rfl⟩))
    go_loopg [10] (l + 1) (fun n v10 wr => ∃ (k : Nat) (a' : Option Addr) (n' c' : Nat), k ≤ l ∧ v10 = .int .i64 k ∧ n + k = l + 1 ∧
      wr.ownsRow (w.heap.size + 2) 2 1 (.slice a' n' c') k ((rowI most f xs k).map (Value.int .i64)) ∧ wr.heap[w.heap.size + 1]? = some (.cells #[.int .i64 2, .slice a' n' c', .slice none 0 0] 28 (0, 0)) ∧
      wr.heap[w.heap.size]? = some (.cells #[.int .i64 0, .slice none 0 0, .slice none 0 0] 28 (0, 0)) ∧ Below w.heap.size w wr)
    case atStart => exact ⟨0, none, 0, 0, Nat.zero_le _, rfl, rfl, World.ownsRow_nil _ _ _ _, heap_new (by simp), heap_old (heap_new rfl), below_alloc_of (below_alloc _ _) _⟩
    case round =>
      obtain ⟨k, a', n', c', hk, rfl, hn, own, hS, hR, bel⟩ := hrel
      obtain ⟨⟨s0, s1, s2⟩, ⟨g0, g1, g2⟩, hSlt⟩ := box3 hS
      have HS := Lib.hid hS
      have HR := Lib.hid hR
      have HN := Lib.hid hn
      clear hS hR hn
      by_cases hlt : k < l
      · skip
        all_goals
          have hbb := behind_bounds f k most (by omega)
          obtain ⟨d, hd⟩ := Int.eq_ofNat_of_zero_le hbb.1
          have hdm : (d : Int) < most := by omega
          have hx : wr.cell? ⟨b, off + (2 + d), none⟩ = some (.int .i64 (xs.getD (2 + d) 0)) := (bel.cell (p := ⟨b, off + (2 + d), none⟩) (by simp; omega)).trans (HCE.out (2 + d) (by have := HL.out; omega))
          have hsn := rowI_snoc most f xs k
          have e2 : (2 + (d : Int)).toNat = 2 + d := by omega
          rw [hd, e2] at hsn
          have HSN := Lib.hid hsn
          have HB : Hid (∀ w, Calls Try.prog 27 #[.int .i64 f, .int .u64 k, .int .i64 most] w (Drew (.int .i64 (d : Int)) w)) := fun w => Behind_at w f k most d (by omega) h1 (by omega) (by omega) hd
          have hbS : b ≠ w.heap.size + 1 := by omega
          have hxd : (2 : Int) + d < xs.length := by have := HL.out; omega
          have hxd0 : (0 : Int) ≤ 2 + d := by omega
          have hwr : IntKind.i64.wrap (2 + (d : Int)) = 2 + d := IntWalk.i64_in _ (by omega)
          have hwk : IntKind.u64.wrap (k : Int) = k := u64_in k (by omega)
          generalize xs.getD (2 + d) 0 = x at *
          clear hsn hbb hd
          go_wp2_with fail
          have hnews1 : ∀ (r j : Nat) (u : Value), [Value.int .i64 x][j]? = some u → ((wr.drewN r).alloc (.cells #[.int .i64 x] 2)).cell? ((⟨wr.heap.size, 0, none⟩ : Addr).add j) = some u := by
            intro r j u hj
            match j, hj with
            | 0, hj => simp at hj; subst hj; simp [Addr.add]; exact World.cell?_alloc_new (wr.drewN r) _ _ 0
          have HNW := Lib.hid hnews1
          have HX := Lib.hid hx
          have hSb : w.heap.size + 2 ≤ wr.heap.size := by omega
          clear hnews1
          go_region_law (first | (refine step_append_lies _ rfl (.tmp 57) (.tmp 67) 24 rfl (w.heap.size + 2) 2 i0 (.int .i64 0) 1 8 Try.underlying24 hi hz0 hz1 hz2 rfl (by decide) (.slice a' n' c') k ((rowI most f xs k).map (Value.int .i64)) rfl (World.ownsRow.alloc (w := wr.drewN _) own _) ⟨wr.heap.size, 0, none⟩ 1 1 [.int .i64 x] rfl rfl (HNW.out _) (by simp [Value.oneCell']) (by decide) (by unfold maxLen; omega) (by omega) (by simp; omega) _ rfl ?_; intro g cap w1 hown1 hgrow1 hat1 hgl1; have hS1 := own_keepN own (by omega) HS.out hgrow1; have hR1 := own_keepN own (by omega) HR.out hgrow1; have hX1 := cell_keepN own (by omega) hSb HX.out hgrow1; obtain ⟨⟨t0, t1, t2⟩, ⟨u0, u1, u2⟩, hTlt⟩ := box3 hS1; have HS1 := Lib.hid hS1; have HR1 := Lib.hid hR1; clear hS1 hR1) | (go_simp; refine (HB.out _).mono ?_; rintro e w' ⟨rfl, q, rfl⟩; go_simp; have hcA : ((wr.drewN (1 + q)).alloc (.cells #[.int .i64 x] 2)).cell? ⟨w.heap.size + 1, 1, none⟩ = some (.slice a' n' c') := cell_alloc_old (w := wr.drewN _) s1))
          all_goals trace "WAY"
          all_goals
           have hl : (rowI most f xs k).map (Value.int .i64) ++ [Value.int .i64 x] = (rowI most f xs (k + 1)).map (Value.int .i64) := by rw [HSN.out]; simp
           have bel1 : Below w.heap.size w w1 := (below_alloc_of (below_trans bel (below_drewN _ _)) _ |>.grown hgrow1 (by have := bel.size; simp; omega) (fun q hq => by have := (own.lt q hq).1; omega))
           have own1 : w1.ownsRow (w.heap.size + 2) 2 1 (.slice (some ⟨g, 0, none⟩) (k + 1) cap) (k + 1) ((rowI most f xs (k + 1)).map (Value.int .i64)) := by rw [← hl]; simpa using hown1
           clear hl hown1 hgrow1 hat1 hX1
           go_wp2
           go_roundg (l - k)
           case measure => have := HN.out; omega
           case rel => exact ⟨k + 1, _, _, _, by omega, by go_num, by omega, ownsRow_setCell_below own1 (by simp) _, heap_set HS1.out, heap_set_other HR1.out (by simp), bel1.setCell (by simp) _⟩
      · have hk' : k = l := by omega
        obtain ⟨⟨r0, r1, r2⟩, ⟨f0, f1, f2⟩, hRlt⟩ := box3 HR.out
        subst hk'
        go_wp2
        refine bodyPost_ret (v := .tuple #[.agg #[.int .i64 2, .slice a' n' c', .slice none 0 0], .int .i64 0]) (results_shape (p := 4) (u := 5) rfl _ _ _ _ #[.int .i64 2, .slice a' n' c', .slice none 0 0] _ _ rfl (heap_set (heap_set (heap_set HR.out))) Try.underlying28 rfl infoShape) rfl ⟨a', n', c', rfl, ?_, ?_⟩
        · have hown : Owns wr (w.heap.size + 2) (.slice a' n' c') (rowI most f xs k) := by unfold Owns; rwa [rowI_len]
          exact Owns.le (ownsRow_setCell_below (ownsRow_setCell_below (ownsRow_setCell_below hown (by simp) _) (by simp) _) (by simp) _) (by omega)
        · exact ((bel.setCell (by simp) _).setCell (by simp) _).setCell (by simp) _

theorem Shape_calls (w : World) (B : Nat) (most : Int) (a : Value) (xs : List Int) (ha : Reads w B a xs) (hB : B ≤ w.heap.size) :
    Calls Try.prog 14 #[.int .i64 most, a] w (ShapePost (shapeS most xs).1 (shapeS most xs).2.1 (shapeS most xs).2.2 w) := by
  unfold shapeS
  by_cases hok : shapeOk most xs = true
  · rw [if_pos hok]
    by_cases hr : rangeOk most (xs.getD 0 0) (xs.getD 1 0) = true
    · rw [if_pos hr]; exact Shape_good w B most a xs ha hB hok hr
    · rw [if_neg hr]; exact Shape_range w B most a xs ha hB hok (by simpa using hr)
  · rw [if_neg hok]; exact Shape_bad w B most a xs ha (by simpa using hok)
theorem RefShape_calls (w : World) (B : Nat) (most : Int) (a : Value) (xs : List Int) (ha : Reads w B a xs) (hB : B ≤ w.heap.size) :
    Calls Try.prog 15 #[.int .i64 most, a] w (ShapePost (shapeS most xs).1 (shapeS most xs).2.1 (shapeS most xs).2.2 w) := by
  unfold shapeS
  by_cases hok : shapeOk most xs = true
  · rw [if_pos hok]
    by_cases hr : rangeOk most (xs.getD 0 0) (xs.getD 1 0) = true
    · rw [if_pos hr]; exact RefShape_good w B most a xs ha hB hok hr
    · rw [if_neg hr]; exact RefShape_range w B most a xs ha hB hok (by simpa using hr)
  · rw [if_neg hok]; exact RefShape_bad w B most a xs ha (by simpa using hok)

theorem shapeS_in (most : Int) (xs : List Int) (h : ∀ x ∈ xs, -9223372036854775808 ≤ x ∧ x ≤ 9223372036854775807) :
    (shapeS most xs).2.1.length ≤ 17592186043904 ∧ ∀ x ∈ (shapeS most xs).2.1, -9223372036854775808 ≤ x ∧ x ≤ 9223372036854775807 := by
  unfold shapeS
  split
  · rename_i hok
    have h1 := of_decide_eq_true hok
    split
    · rename_i hr
      have h2 := of_decide_eq_true hr
      refine ⟨by simp only [rowI_len]; omega, fun x hx => ?_⟩
      unfold rowI at hx
      obtain ⟨i, -, rfl⟩ := List.mem_map.1 hx
      rw [List.getD_eq_getElem?_getD]
      cases he : xs[(2 + behindI (xs.getD 0 0) i most).toNat]? with
      | none => simp
      | some y => exact h y (List.mem_of_getElem? he)
    · simp
  · simp

end Go.Proofs.Ytdacadhiogikdaa
