/- The walk of the law Owns: arguments are neither written into nor kept. -/
import Derived.Test.YtihlbhlagpmbjaaLaws
namespace Go.Proofs.Ytihlbhlagpmbjaa
open Go.RowKit

set_option maxRecDepth 100000 in
set_option maxHeartbeats 4000000 in
theorem Owns_walk (w : World) (base most call : Int) (av wv : Value) (xs ws : List Int) (ha : Reads w w.heap.size av xs) (hw : Reads w w.heap.size wv ws) :
    Calls Try.prog 6 #[asked base most call av wv] w (True_ w) := by
  unfold asked
  have hxl := ha.1
  have hxr := ha.2.1
  have ba := below_alloc w (.cells #[.int .i64 base, .int .i64 most, .int .i64 call, av, wv] 36)
  have HA := Lib.hid ((ha.below ba).mono (show w.heap.size ≤ (w.alloc (.cells #[.int .i64 base, .int .i64 most, .int .i64 call, av, wv] 36)).heap.size by simp))
  have HW := Lib.hid ((hw.below ba).mono (show w.heap.size ≤ (w.alloc (.cells #[.int .i64 base, .int .i64 most, .int .i64 call, av, wv] 36)).heap.size by simp))
  have HXR := Lib.hid hxr
  clear ha hw ba hxr
  go_enter Try.func6, Try.ntmps6
  go_wp2_with fail
  refine (numbers_calls _ _ _ xs HA.out (by simp)).mono ?_
  rintro e w1 ⟨v1, rfl, own1, hb1⟩
  have hA1 := box_keep hb1 (heap_new (w := w) rfl)
  obtain ⟨cA0, cA1, cA2, cA3, cA4⟩ := box5 hA1
  have HB := Lib.hid hA1
  have HR1 := Lib.hid (own1.reads hxl HXR.out)
  clear hA1
  have hAlt : w.heap.size + 1 ≤ w1.heap.size := by have := hb1.size; simpa using this
  by_cases hok : takesB base most (arityI call) xs.length = true
  · have HS := Lib.hid (sim_init hok)
    go_wp2_with fail
    refine (New_yes _ _ base most call _ xs HR1.out (Nat.le_refl _) hok).mono ?_
    rintro e w2 ⟨p, hp, rfl, hb2, F, rep2, hF⟩
    have hA2 := box_keep hb2 HB.out
    clear cA0 cA1 cA2 cA3 cA4
    obtain ⟨cA0, cA1, cA2, cA3, cA4⟩ := box5 hA2
    have HB2 := Lib.hid hA2
    have hb12 := below_trans hb1 hb2
    clear hA2
    go_wp2_with fail
    refine (SameNumbers_calls _ _ _ _ xs xs (HR1.out.below hb2) ((HA.out.below hb12).mono hb1.size)).mono ?_
    rintro e w3 ⟨rfl, hb3⟩
    have hA3 := box_keep hb3 HB2.out
    have hb13 := below_trans hb12 hb3
    have hb23 := below_trans hb2 hb3
    clear cA0 cA1 cA2 cA3 cA4
    obtain ⟨cA0, cA1, cA2, cA3, cA4⟩ := box5 hA3
    have HB3 := Lib.hid hA3
    clear hA3
    rw [decide_eq_true rfl]
    go_wp2_with fail
    refine (right_calls _ _ base most call _ xs (HA.out.below hb13)).mono ?_
    rintro e w4 ⟨rfl, rfl⟩
    rw [hok]
    have rep3 : Rep w3 p (initM base most call xs) F := rep_keep rep2 fun q hq => hb3.block q ((rep_mem rep2).2 q hq)
    have own3 : w3.ownsRow (w.heap.size + 1) 2 1 v1 xs.length (xs.map (Value.int .i64)) := by
      have h := own1.kept (grown_of_below hb23 none) (by cases v1.ownBlock <;> simp)
      rwa [World.size_alloc] at h
    have hrow := own1.lt
    clear rep2 own1
    have hs12 := hb12.size
    have hs13 := hb13.size
    have hs23 := hb23.size
    rcases own3.2 with ⟨rfl, hn⟩ | ⟨g, cap, cur, rfl, hbg, hg, hnc, _, hcs, -⟩
    · clear hn own3 hrow
      go_wp2_with fail
      refine wp_loop_rounds 1 ?_
      rw [rounds_succ]
      go_wp2_with fail
      refine (play_calls _ (w.heap.size + 1) _ base most call _ _ xs ws _ F (by have := HA.out.below hb13; rwa [World.size_alloc] at this) (by have := HW.out.below hb13; rwa [World.size_alloc] at this) rep3 (fun q hq => by have := hF q hq; omega) (by omega) HS.out).mono ?_
      rintro e w4 ⟨rfl, hb4⟩
      go_wp2
      go_ret
      exact ⟨rfl, ((below_alloc _ _).trans (hb13.mono (by simp))).trans (hb4.mono (by omega))⟩
    · have hgw := (hrow g rfl).2
      clear own3 hrow
      go_wp2_with fail
      go_loopw [8] (fun i wr => ∃ (k : Nat) (cur : Array Value), k ≤ xs.length ∧ i = .int .i64 k ∧ wr.heap[g]? = some (.cells cur 2 (0, 0)) ∧ cur.size = cap * 1 ∧ w3.grownBy wr (some g)) (fun i _ => xs.length - (intOf i).toNat)
      case atStart => exact ⟨0, cur, Nat.zero_le _, rfl, hg, hcs, grown_refl _ _⟩
      case round =>
        obtain ⟨k, cur', hk, rfl, hgk, hck, hgr⟩ := hrel
        have hcellk : ∀ i, i < xs.length → ∃ u, wr.cell? ⟨g, i, none⟩ = some u := by
          intro i hi
          refine ⟨cur'[i]'(by omega), ?_⟩
          rw [cell_of_row wr g i _ _ _ hgk]
          exact Array.getElem?_eq_getElem _
        have hfk := frozen_of_row wr g k _ _ hgk
        by_cases hlt : k < xs.length
        · obtain ⟨u, hu⟩ := hcellk k hlt
          have HG := Lib.hid hgk
          have hgl : g < wr.heap.size := (Array.getElem?_eq_some_iff.1 hgk).1
          clear hcellk hgk hg hcs
          go_wp2
          go_roundw
          case rel => exact ⟨k + 1, _, by omega, by go_num, heap_set HG.out, by simpa using hck, grown_set hgr _⟩
          case measure => simp [intOf]; omega
        · have HBr := box_grown hgr HB3.out (by omega)
          clear hcellk cA0 cA1 cA2 cA3 cA4
          obtain ⟨cA0, cA1, cA2, cA3, cA4⟩ := box5 HBr
          have hbr : Below (w.alloc (.cells #[.int .i64 base, .int .i64 most, .int .i64 call, av, wv] 36)).heap.size (w.alloc (.cells #[.int .i64 base, .int .i64 most, .int .i64 call, av, wv] 36)) wr :=
            hb13.trans ⟨hgr.os, hgr.tape, hgr.output, hgr.size, fun q hq => hgr.block q (by have := hb13.size; omega) (fun e => by injection e with e; simp at hq; omega)⟩
          have repr : Rep wr p (initM base most call xs) F := rep_keep rep3 fun q hq => hgr.block q ((rep_mem rep3).2 q hq) (fun e => by injection e with e; have := hF q hq; omega)
          have hsr := hgr.size
          clear HBr hg hcs hgk hck hfk
          go_wp2_with fail
          refine (play_calls _ (w.heap.size + 1) _ base most call _ _ xs ws _ F (by have := HA.out.below hbr; rwa [World.size_alloc] at this) (by have := HW.out.below hbr; rwa [World.size_alloc] at this) repr (fun q hq => by have := hF q hq; omega) (by omega) HS.out).mono ?_
          rintro e w4 ⟨rfl, hb4⟩
          go_wp2
          go_ret
          exact ⟨rfl, ((below_alloc _ _).trans (hbr.mono (by simp))).trans (hb4.mono (by omega))⟩
  · have hno : takesB base most (arityI call) xs.length = false := by simpa using hok
    clear hok
    go_wp2_with fail
    refine (New_no _ _ base most call _ xs HR1.out hno).mono ?_
    rintro e w2 ⟨rfl, hb2⟩
    have hA2 := box_keep hb2 HB.out
    have hb12 := below_trans hb1 hb2
    clear cA0 cA1 cA2 cA3 cA4
    obtain ⟨cA0, cA1, cA2, cA3, cA4⟩ := box5 hA2
    have HB2 := Lib.hid hA2
    clear hA2
    go_wp2_with fail
    refine (SameNumbers_calls _ _ _ _ xs xs (HR1.out.below hb2) ((HA.out.below hb12).mono hb1.size)).mono ?_
    rintro e w3 ⟨rfl, hb3⟩
    have hA3 := box_keep hb3 HB2.out
    have hb13 := below_trans hb12 hb3
    clear cA0 cA1 cA2 cA3 cA4
    obtain ⟨cA0, cA1, cA2, cA3, cA4⟩ := box5 hA3
    have HB3 := Lib.hid hA3
    clear hA3
    rw [decide_eq_true rfl]
    go_wp2_with fail
    refine (right_calls _ _ base most call _ xs (HA.out.below hb13)).mono ?_
    rintro e w4 ⟨rfl, rfl⟩
    rw [hno]
    go_wp2
    go_ret
    exact ⟨rfl, (below_alloc _ _).trans (hb13.mono (by simp))⟩

end Go.Proofs.Ytihlbhlagpmbjaa
