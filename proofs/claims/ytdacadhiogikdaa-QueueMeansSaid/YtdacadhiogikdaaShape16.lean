/- What the queue's cells say: the contract of Shape. -/
import Derived.Test.YtdacadhiogikdaaShapeB
import Derived.Test.YtdacadhiogikdaaMach16
import Derived.Deep.RegionHeld3
import Derived.Outline
import Derived.IntWalk
namespace Go.Proofs.Ytdacadhiogikdaa
open Go.RowKit

def rowI (most f : Int) (xs : List Int) (l : Nat) : List Int := (List.range l).map fun (i : Nat) => xs.getD (2 + behindI f i most).toNat 0
def shapeOk (most : Int) (xs : List Int) : Bool := decide ((0 ≤ most ∧ most ≤ 16) ∧ (xs.length : Int) = sizeI most)
def rangeOk (most f l : Int) : Bool := decide (0 ≤ l ∧ l ≤ most ∧ 0 ≤ f ∧ (f = 0 ∨ f < most))
/-- What cells say: the kind, the values, what is wrong. -/
def shapeS (most : Int) (xs : List Int) : Int × List Int × Int :=
  if shapeOk most xs = true then
    (if rangeOk most (xs.getD 0 0) (xs.getD 1 0) = true then (2, rowI most (xs.getD 0 0) xs (xs.getD 1 0).toNat, 0) else (0, [], 12))
  else (0, [], 1)

theorem rowI_snoc (most f : Int) (xs : List Int) (k : Nat) : rowI most f xs (k + 1) = rowI most f xs k ++ [xs.getD (2 + behindI f k most).toNat 0] := by
  unfold rowI
  rw [List.range_succ, List.map_append]
  rfl
theorem rowI_len (most f : Int) (xs : List Int) (k : Nat) : (rowI most f xs k).length = k := by simp [rowI]

set_option maxRecDepth 100000 in
set_option maxHeartbeats 1000000 in
theorem Shape_bad (w : World) (B : Nat) (most : Int) (a : Value) (xs : List Int) (ha : Reads w B a xs) (hno : shapeOk most xs = false) :
    Calls Try.prog 14 #[.int .i64 most, a] w (ShapePost 0 [] 1 w) := by
  obtain ⟨hxl, hxr, a, ca, rfl, hca, ha⟩ := ha
  clear ha hxr
  have hno := of_decide_eq_false hno
  rcases (show most < 0 ∨ (0 ≤ most ∧ 16 < most) ∨ (0 ≤ most ∧ most ≤ 16 ∧ ¬ (xs.length : Int) = sizeI most) from by omega) with h | ⟨h, h1⟩ | ⟨h, h1, h2⟩
  case' inr.inr => have h2' : ((xs.length : Int) != sizeI most) = true := (by simpa using h2); clear h2
  all_goals
    clear hno
    go_enter Try.func14, Try.ntmps14
    go_wp2_with (go_at_call 11; refine (Size_calls _ _).mono ?_; rintro e w' ⟨rfl, rfl⟩)
    refine bodyPost_ret (results_shape (p := 4) (u := 5) rfl _ _ _ _ _ _ _ rfl (heap_new rfl) Try.underlying28 rfl infoShape) rfl ⟨none, 0, 0, rfl, owns_nil _ _, below_alloc _ _⟩

set_option maxRecDepth 100000 in
set_option maxHeartbeats 2000000 in
theorem Shape_range (w : World) (B : Nat) (most : Int) (a : Value) (xs : List Int) (ha : Reads w B a xs) (hB : B ≤ w.heap.size) (hok : shapeOk most xs = true) (hr : rangeOk most (xs.getD 0 0) (xs.getD 1 0) = false) :
    Calls Try.prog 14 #[.int .i64 most, a] w (ShapePost 0 [] 12 w) := by
  obtain ⟨hxl, hxr, a, ca, rfl, hca, ha⟩ := ha
  obtain ⟨⟨h0, h1⟩, hl⟩ := of_decide_eq_true hok
  have hl' : ((xs.length : Int) != sizeI most) = false := by simpa using hl
  rw [sizeI_in h0 h1] at hl
  rcases ha with h | ⟨b, off, rfl, hBb, hcell⟩
  · subst h; simp at hl; omega
  have c0 := hcell 0 (by omega)
  have c1 := hcell 1 (by omega)
  rw [Nat.add_zero] at c0
  have hr := of_decide_eq_false hr
  generalize xs.getD 0 0 = f at *
  generalize xs.getD 1 0 = l at *
  have hbs : b < w.heap.size := by omega
  have hbne : b ≠ w.heap.size := by omega
  have hx2 : (1 : Int) < xs.length := by omega
  have hx1 : (0 : Int) < xs.length := by omega
  clear hok hcell hxr hl
  rcases (show l < 0 ∨ (0 ≤ l ∧ most < l) ∨ (0 ≤ l ∧ l ≤ most ∧ f < 0) ∨ (0 ≤ l ∧ l ≤ most ∧ 0 ≤ f ∧ most < 1 ∧ 1 ≤ f) ∨ (0 ≤ l ∧ l ≤ most ∧ 0 ≤ f ∧ 1 ≤ most ∧ most ≤ f) from by omega) with h | ⟨h, h2⟩ | ⟨h, h2, h3⟩ | ⟨h, h2, h3, h4, h5⟩ | ⟨h, h2, h3, h4, h5⟩
  all_goals
    clear hr
    go_enter Try.func14, Try.ntmps14
    go_wp2_with (go_at_call 11; refine (Size_calls _ _).mono ?_; rintro e w' ⟨rfl, rfl⟩)
    go_quiet (fail)
    go_wp2
    refine bodyPost_ret (results_shape (p := 4) (u := 5) rfl _ _ _ _ _ _ _ rfl (heap_set (heap_set (heap_set (heap_new_drewN rfl)))) Try.underlying28 rfl infoShape) rfl ⟨none, 0, 0, rfl, owns_nil _ _, ?_⟩
    exact (((below_trans (below_alloc _ _) (below_drewN _ _)).setCell (by simp) _).setCell (by simp) _).setCell (by simp) _

theorem own_keepN {wr w1 : World} {O o : Obj} {v : Value} {base n q r : Nat} {e : TypeId} {xs : List Value} (own : wr.ownsRow base e 1 v n xs) (hq : q < base) (ho : wr.heap[q]? = some o)
    (hgrow : ((wr.drewN r).alloc O).grownBy w1 v.ownBlock) : w1.heap[q]? = some o := by
  have hlt : q < wr.heap.size := (Array.getElem?_eq_some_iff.1 ho).1
  rw [hgrow.block q (by simp; omega) (fun e => by have := (own.lt q e.symm).1; omega)]
  exact heap_old (w := wr.drewN r) ho
theorem cell_keepN {wr w1 : World} {O : Obj} {v u : Value} {base n r b off : Nat} {e : TypeId} {xs : List Value} (own : wr.ownsRow base e 1 v n xs) (hq : b < base) (hbs : base ≤ wr.heap.size) (ho : wr.cell? ⟨b, off, none⟩ = some u)
    (hgrow : ((wr.drewN r).alloc O).grownBy w1 v.ownBlock) : w1.cell? ⟨b, off, none⟩ = some u := by
  rw [World.cell?_of_block (a := ⟨b, off, none⟩) (hgrow.block b (by simp; omega) (fun e => by have := (own.lt b e.symm).1; omega))]
  exact cell_alloc_old (w := wr.drewN r) ho

theorem behind_at (w : World) (f k n : Int) (d : Nat) (h1 : 1 ≤ n) (h2 : n ≤ 16) (hk : 0 ≤ k) (hk2 : k ≤ 18446744073709551615) (hd : behindI f k n = d) :
    Calls Try.prog 26 #[.int .i64 f, .int .u64 k, .int .i64 n] w (Drew (.int .i64 d) w) := hd ▸ behind_calls w f k n h1 h2 hk hk2

set_option maxRecDepth 100000 in
set_option maxHeartbeats 4000000 in
theorem Shape_good (w : World) (B : Nat) (most : Int) (a : Value) (xs : List Int) (ha : Reads w B a xs) (hB : B ≤ w.heap.size) (hok : shapeOk most xs = true) (hr : rangeOk most (xs.getD 0 0) (xs.getD 1 0) = true) :
    Calls Try.prog 14 #[.int .i64 most, a] w (ShapePost 2 (rowI most (xs.getD 0 0) xs (xs.getD 1 0).toNat) 0 w) := by
  obtain ⟨hxl, hxr, a, ca, rfl, hca, ha⟩ := ha
  obtain ⟨i0, hi, hz0, hz1, hz2⟩ := info_parts infoI64
  obtain ⟨⟨h0, h1⟩, hl⟩ := of_decide_eq_true hok
  have hl' : ((xs.length : Int) != sizeI most) = false := by simpa using hl
  rw [sizeI_in h0 h1] at hl
  rcases ha with h | ⟨b, off, rfl, hBb, hcell⟩
  · subst h; simp at hl; omega
  have c0 := hcell 0 (by omega)
  have c1 := hcell 1 (by omega)
  rw [Nat.add_zero] at c0
  have hr := of_decide_eq_true hr
  have HCE := Lib.hid hcell
  generalize xs.getD 0 0 = f at *
  generalize xs.getD 1 0 = l at *
  have hbs : b < w.heap.size := by omega
  have hbne : b ≠ w.heap.size := by omega
  have hx2 : (1 : Int) < xs.length := by omega
  have hx1 : (0 : Int) < xs.length := by omega
  obtain ⟨r0, r1, r2, r3⟩ := hr
  obtain ⟨l, rfl⟩ := Int.eq_ofNat_of_zero_le r0
  have r4 : most < 1 ∧ f < 1 ∨ 1 ≤ most ∧ f < most := by omega
  have hxl2 : (xs.length : Int) ≤ 18 := by omega
  have HL := Lib.hid hl
  clear hok hcell hxr hl r3
  rcases r4 with ⟨r4, r5⟩ | ⟨r4, r5⟩
  all_goals
    go_enter Try.func14, Try.ntmps14
    go_wp2_with (go_at_call 11; refine (Size_calls _ _).mono ?_; rintro e w' ⟨rfl, rfl⟩)
    go_quiet (fail)
    go_wp2
    go_loopg [51] (l + 1) (fun n v51 wr => ∃ (k : Nat) (a' : Option Addr) (n' c' : Nat), k ≤ l ∧ v51 = .int .u64 k ∧ n + k = l + 1 ∧
      wr.ownsRow (w.heap.size + 2) 2 1 (.slice a' n' c') k ((rowI most f xs k).map (Value.int .i64)) ∧ wr.heap[w.heap.size + 1]? = some (.cells #[.int .i64 2, .slice a' n' c', .slice none 0 0] 28 (0, 0)) ∧
      wr.heap[w.heap.size]? = some (.cells #[.int .i64 0, .slice none 0 0, .slice none 0 0] 28 (0, 0)) ∧ Below w.heap.size w wr)
    case atStart => exact ⟨0, none, 0, 0, Nat.zero_le _, rfl, rfl, World.ownsRow_nil _ _ _ _, heap_new (by simp), heap_old (heap_new_drewN rfl), below_alloc_of (below_trans (below_alloc _ _) (below_drewN _ _)) _⟩
    case round =>
      obtain ⟨k, a', n', c', hk, rfl, hn, own, hS, hR, bel⟩ := hrel
      obtain ⟨⟨s0, s1, s2⟩, ⟨g0, g1, g2⟩, hSlt⟩ := box3 hS
      have HS := Lib.hid hS
      have HR := Lib.hid hR
      have HN := Lib.hid hn
      clear hS hR hn
      by_cases hlt : k < l
      · first | (exfalso; omega) | skip
        all_goals
          have hbb := behind_bounds f k most (by omega)
          obtain ⟨d, hd⟩ := Int.eq_ofNat_of_zero_le hbb.1
          have hdm : (d : Int) < most := by omega
          have hx : wr.cell? ⟨b, off + (2 + d), none⟩ = some (.int .i64 (xs.getD (2 + d) 0)) := (bel.cell (p := ⟨b, off + (2 + d), none⟩) (by simp; omega)).trans (HCE.out (2 + d) (by have := HL.out; omega))
          have hsn := rowI_snoc most f xs k
          have e2 : (2 + (d : Int)).toNat = 2 + d := by omega
          rw [hd, e2] at hsn
          have HSN := Lib.hid hsn
          have HB : Hid (∀ w, Calls Try.prog 26 #[.int .i64 f, .int .u64 k, .int .i64 most] w (Drew (.int .i64 (d : Int)) w)) := fun w => behind_at w f k most d (by omega) h1 (by omega) (by omega) hd
          have hbS : b ≠ w.heap.size + 1 := by omega
          have hxd : (2 : Int) + d < xs.length := by have := HL.out; omega
          have hxd0 : (0 : Int) ≤ 2 + d := by omega
          have hwr : IntKind.i64.wrap (2 + (d : Int)) = 2 + d := IntWalk.i64_in _ (by omega)
          generalize xs.getD (2 + d) 0 = x at *
          clear hsn hbb hd
          go_wp2_with fail
          have hnews1 : ∀ (r j : Nat) (u : Value), [Value.int .i64 x][j]? = some u → ((wr.drewN r).alloc (.cells #[.int .i64 x] 2)).cell? ((⟨wr.heap.size, 0, none⟩ : Addr).add j) = some u := by
            intro r j u hj
            match j, hj with
            | 0, hj => simp at hj; subst hj; simp [Addr.add]; exact World.cell?_alloc_new (wr.drewN r) _ _ 0
          have HNW := Lib.hid hnews1
          have HX := Lib.hid hx
          have hSb : w.heap.size + 2 ≤ wr.heap.size := by omega
          clear hnews1
          go_region_law (first | (refine step_append_lies _ rfl (.tmp 55) (.tmp 64) 24 rfl (w.heap.size + 2) 2 i0 (.int .i64 0) 1 8 Try.underlying24 hi hz0 hz1 hz2 rfl (by decide) (.slice a' n' c') k ((rowI most f xs k).map (Value.int .i64)) rfl (World.ownsRow.alloc (w := wr.drewN _) own _) ⟨wr.heap.size, 0, none⟩ 1 1 [.int .i64 x] rfl rfl (HNW.out _) (by simp [Value.oneCell']) (by decide) (by unfold maxLen; omega) (by omega) (by simp; omega) _ rfl ?_; intro g cap w1 hown1 hgrow1 hat1 hgl1; have hS1 := own_keepN own (by omega) HS.out hgrow1; have hR1 := own_keepN own (by omega) HR.out hgrow1; have hX1 := cell_keepN own (by omega) hSb HX.out hgrow1; obtain ⟨⟨t0, t1, t2⟩, ⟨u0, u1, u2⟩, hTlt⟩ := box3 hS1; have HS1 := Lib.hid hS1; have HR1 := Lib.hid hR1; clear hS1 hR1) | (go_simp; refine (HB.out _).mono ?_; rintro e w' ⟨rfl, q, rfl⟩; go_simp; have hcA : ((wr.drewN (1 + q)).alloc (.cells #[.int .i64 x] 2)).cell? ⟨w.heap.size + 1, 1, none⟩ = some (.slice a' n' c') := cell_alloc_old (w := wr.drewN _) s1))
          all_goals trace "WAY"
          all_goals
           have hl : (rowI most f xs k).map (Value.int .i64) ++ [Value.int .i64 x] = (rowI most f xs (k + 1)).map (Value.int .i64) := by rw [HSN.out]; simp
           have bel1 : Below w.heap.size w w1 := (below_alloc_of (below_trans bel (below_drewN _ _)) _ |>.grown hgrow1 (by have := bel.size; simp; omega) (fun q hq => by have := (own.lt q hq).1; omega))
           have own1 : w1.ownsRow (w.heap.size + 2) 2 1 (.slice (some ⟨g, 0, none⟩) (k + 1) cap) (k + 1) ((rowI most f xs (k + 1)).map (Value.int .i64)) := by rw [← hl]; simpa using hown1
           clear hl hown1 hgrow1 hat1 hX1
           go_wp2
           go_roundg (l - k)
           case measure => have := HN.out; omega
           case rel => exact ⟨k + 1, _, _, _, by omega, by go_num, by omega, ownsRow_setCell_below own1 (by simp) _, heap_set HS1.out, heap_set_other HR1.out (by simp), bel1.setCell (by simp) _⟩
      · have hk' : k = l := by omega
        obtain ⟨⟨r0, r1, r2⟩, ⟨f0, f1, f2⟩, hRlt⟩ := box3 HR.out
        subst hk'
        go_wp2
        refine bodyPost_ret (v := .tuple #[.agg #[.int .i64 2, .slice a' n' c', .slice none 0 0], .int .i64 0]) (results_shape (p := 4) (u := 5) rfl _ _ _ _ #[.int .i64 2, .slice a' n' c', .slice none 0 0] _ _ rfl (heap_set (heap_set (heap_set HR.out))) Try.underlying28 rfl infoShape) rfl ⟨a', n', c', rfl, ?_, ?_⟩
        · have hown : Owns wr (w.heap.size + 2) (.slice a' n' c') (rowI most f xs k) := by unfold Owns; rwa [rowI_len]
          exact Owns.le (ownsRow_setCell_below (ownsRow_setCell_below (ownsRow_setCell_below hown (by simp) _) (by simp) _) (by simp) _) (by omega)
        · exact ((bel.setCell (by simp) _).setCell (by simp) _).setCell (by simp) _

end Go.Proofs.Ytdacadhiogikdaa
