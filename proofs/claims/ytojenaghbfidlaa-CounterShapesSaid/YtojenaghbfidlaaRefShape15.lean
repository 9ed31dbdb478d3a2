/- The contract of the reference's Shape of layer 15. -/
import Derived.Test.YtojenaghbfidlaaShape15
import Derived.Test.YtojenaghbfidlaaApp
import Derived.Deep.LoopGhost
namespace Go.Proofs.Ytojenaghbfidlaa
open Go.RowKit

theorem cell_alloc_old {w : World} {o : Obj} {p : Addr} {v : Value} (h : w.cell? p = some v) : (w.alloc o).cell? p = some v := by
  rw [World.cell?_alloc_lt _ _ _ (World.block_lt_of_cell? w _ h)]; exact h
theorem frozen_alloc_old {w : World} {o : Obj} {p : Addr} {b : Bool} (h : w.frozen? p = b) (hp : p.block < w.heap.size) : (w.alloc o).frozen? p = b := by
  rw [World.frozen?_alloc_old _ _ _ (by omega)]; exact h

theorem own_keep {wr w1 : World} {O o : Obj} {v : Value} {base n q : Nat} {e : TypeId} {xs : List Value} (own : wr.ownsRow base e 1 v n xs) (hq : q < base) (ho : wr.heap[q]? = some o)
    (hgrow : (wr.drew.alloc O).grownBy w1 v.ownBlock) : w1.heap[q]? = some o := by
  have hlt : q < wr.heap.size := (Array.getElem?_eq_some_iff.1 ho).1
  rw [hgrow.block q (by simp; omega) (fun e => by have := (own.lt q e.symm).1; omega)]
  exact heap_old (w := wr.drew) ho

set_option maxHeartbeats 2000000 in
theorem RefShape_calls (w : World) (B : Nat) (most : Int) (a : Value) (xs : List Int) (ha : Reads w B a xs) (hB : B ≤ w.heap.size) :
    Calls Try.prog 15 #[.int .i64 most, a] w (if shapeOk most xs = true then ShapePost 1 xs 0 w else ShapePost 0 [] 1 w) := by
  obtain ⟨hxl, hxr, a, ca, rfl, hca, ha⟩ := ha
  obtain ⟨i0, hi, hz0, hz1, hz2⟩ := info_parts infoI64
  by_cases hok : shapeOk most xs = true
  · rw [if_pos hok]
    obtain ⟨⟨h0, h1⟩, hl⟩ := of_decide_eq_true hok
    have hrb := rightB_t h0 h1
    have hl' : ((xs.length : Int) != sizeI most) = false := by simpa using hl
    have HAC := Lib.hid ha
    clear hok hl ha hxr
    go_enter Try.func15, Try.ntmps15
    go_wp2_with (first | (go_at_call 25; refine (Right_calls _ _).mono ?_; rintro e w' ⟨rfl, rfl⟩) | (go_at_call 12; refine (RefSize_calls _ _).mono ?_; rintro e w' ⟨rfl, rfl⟩))
    go_loopg [8] (xs.length + 1) (fun n v8 wr => ∃ (k : Nat) (a' : Option Addr) (n' c' : Nat), k ≤ xs.length ∧ v8 = .int .i64 k ∧ n + k = xs.length + 1 ∧
      wr.ownsRow (w.heap.size + 2) 2 1 (.slice a' n' c') k ((xs.take k).map (Value.int .i64)) ∧ wr.heap[w.heap.size + 1]? = some (.cells #[.int .i64 1, .slice a' n' c', .slice none 0 0] 28 (0, 0)) ∧
      wr.heap[w.heap.size]? = some (.cells #[.int .i64 0, .slice none 0 0, .slice none 0 0] 28 (0, 0)) ∧ Below w.heap.size w wr)
    case atStart => exact ⟨0, none, 0, 0, Nat.zero_le _, rfl, rfl, World.ownsRow_nil _ _ _ _, heap_new (by simp), heap_old (heap_new rfl), below_alloc_of (below_alloc _ _) _⟩
    case round =>
      obtain ⟨k, a', n', c', hk, rfl, hn, own, hS, hR, bel⟩ := hrel
      obtain ⟨⟨s0, s1, s2⟩, ⟨g0, g1, g2⟩, hSlt⟩ := box3 hS
      have HS := Lib.hid hS
      have HR := Lib.hid hR
      have HN := Lib.hid hn
      clear hS hR hn
      by_cases hlt : k < xs.length
      · rcases HAC.out with h | ⟨ba, oa, rfl, hBa, hca'⟩
        · exact absurd hlt (by rw [h]; simp)
        have hx : wr.cell? ⟨ba, oa + k, none⟩ = some (.int .i64 (xs.getD k 0)) := (bel.cell (p := ⟨ba, oa + k, none⟩) (by simp; omega)).trans (hca' k hlt)
        have htk := Lib.hid (take_snoc' xs k hlt)
        have hbS : ba ≠ w.heap.size + 1 := by omega
        clear hca'
        generalize hgx : xs.getD k 0 = x at *
        clear hgx
        have hlt' : (k : Int) < (xs.length : Int) := by omega
        go_wp2_with fail
        have hnews1 : ∀ (j : Nat) (u : Value), [Value.int .i64 x][j]? = some u → (wr.drew.alloc (.cells #[.int .i64 x] 2)).cell? ((⟨wr.heap.size, 0, none⟩ : Addr).add j) = some u := by
          intro j u hj
          match j, hj with
          | 0, hj => simp at hj; subst hj; simp [Addr.add]; exact World.cell?_alloc_new wr.drew _ _ 0
        have HNW := Lib.hid hnews1
        clear hnews1
        go_region_law (first | (refine step_append_lies _ rfl (.tmp 29) (.tmp 34) 24 rfl (w.heap.size + 2) 2 i0 (.int .i64 0) 1 8 Try.underlying24 hi hz0 hz1 hz2 rfl (by decide) (.slice a' n' c') k ((xs.take k).map (Value.int .i64)) rfl (own.drew.alloc _) ⟨wr.heap.size, 0, none⟩ 1 1 [.int .i64 x] rfl rfl HNW.out (by simp [Value.oneCell']) (by decide) (by unfold maxLen; omega) (by omega) (by simp; omega) _ rfl ?_; intro g cap w1 hown1 hgrow1 hat1 hgl1; have hS1 := own_keep own (by omega) HS.out hgrow1; have hR1 := own_keep own (by omega) HR.out hgrow1; obtain ⟨⟨t0, t1, t2⟩, ⟨u0, u1, u2⟩, hTlt⟩ := box3 hS1; have HS1 := Lib.hid hS1; have HR1 := Lib.hid hR1; clear hS1 hR1))
        all_goals
          have hl : (xs.take k).map (Value.int .i64) ++ [Value.int .i64 x] = (xs.take (k + 1)).map (Value.int .i64) := by rw [htk.out]; simp [List.map_take]
          have bel1 : Below w.heap.size w w1 := ((bel.drew).alloc (by have := bel.size; simpa using this) _).grown hgrow1 (by have := bel.size; simp; omega) (fun q hq => by have := (own.lt q hq).1; omega)
          have own1 : w1.ownsRow (w.heap.size + 2) 2 1 (.slice (some ⟨g, 0, none⟩) (k + 1) cap) (k + 1) ((xs.take (k + 1)).map (Value.int .i64)) := by rw [← hl]; simpa using hown1
          clear hl hown1 hgrow1 hat1
          go_wp2
          go_roundg (xs.length - k)
          case measure => have := HN.out; omega
          case rel => exact ⟨k + 1, _, _, _, by omega, by go_num, by omega, ownsRow_setCell_below own1 (by simp) _, heap_set HS1.out, heap_set_other HR1.out (by simp), bel1.setCell (by simp) _⟩
      · have hk' : k = xs.length := by omega
        obtain ⟨⟨r0, r1, r2⟩, ⟨f0, f1, f2⟩, hRlt⟩ := box3 HR.out
        have HK := Lib.hid hk'
        clear hk'
        go_wp2
        have hown : Owns wr (w.heap.size + 2) (.slice a' n' c') xs := by
          have := HK.out
          subst this
          rw [List.take_length] at own
          exact own
        refine bodyPost_ret (v := .tuple #[.agg #[.int .i64 1, .slice a' n' c', .slice none 0 0], .int .i64 0]) (results_shape (p := 4) (u := 5) rfl _ _ _ _ #[.int .i64 1, .slice a' n' c', .slice none 0 0] _ _ rfl (heap_set (heap_set (heap_set HR.out))) Try.underlying28 rfl infoShape) rfl ⟨a', n', c', rfl, ?_, ?_⟩
        · exact Owns.le (ownsRow_setCell_below (ownsRow_setCell_below (ownsRow_setCell_below hown (by simp) _) (by simp) _) (by simp) _) (by omega)
        · exact ((bel.setCell (by simp) _).setCell (by simp) _).setCell (by simp) _
  · rw [if_neg hok]
    have hno := of_decide_eq_false (by simpa using hok : shapeOk most xs = false)
    clear hok ha hxr
    by_cases hr : rightB most = true
    · have hh := of_decide_eq_true hr
      have h2' : ((xs.length : Int) != sizeI most) = true := by simpa using (show ¬ (xs.length : Int) = sizeI most from fun e => hno ⟨hh, e⟩)
      clear hno hh
      go_enter Try.func15, Try.ntmps15
      go_wp2_with (first | (go_at_call 25; refine (Right_calls _ _).mono ?_; rintro e w' ⟨rfl, rfl⟩) | (go_at_call 12; refine (RefSize_calls _ _).mono ?_; rintro e w' ⟨rfl, rfl⟩))
      refine bodyPost_ret (results_shape (p := 4) (u := 5) rfl _ _ _ _ _ _ _ rfl (heap_new rfl) Try.underlying28 rfl infoShape) rfl ⟨none, 0, 0, rfl, owns_nil _ _, below_alloc _ _⟩
    · have hr' : rightB most = false := by simpa using hr
      clear hno hr
      go_enter Try.func15, Try.ntmps15
      go_wp2_with (first | (go_at_call 25; refine (Right_calls _ _).mono ?_; rintro e w' ⟨rfl, rfl⟩))
      refine bodyPost_ret (results_shape (p := 4) (u := 5) rfl _ _ _ _ _ _ _ rfl (heap_new rfl) Try.underlying28 rfl infoShape) rfl ⟨none, 0, 0, rfl, owns_nil _ _, below_alloc _ _⟩

end Go.Proofs.Ytojenaghbfidlaa
