/- The walks of the laws Plays, Owns and Nil. -/
import Derived.Test.YtihlbhlagpmbjaaPlay
import Derived.Test.YtihlbhlagpmbjaaFrame
import Derived.Test.YtihlbhlagpmbjaaSizes
namespace Go.Proofs.Ytihlbhlagpmbjaa
open Go.RowKit

theorem Next_nil (w : World) (v : Int) : Calls Try.prog 22 #[.pointer none, .int .i64 v] w (Gives w0.val w) := by
  unfold w0 WantS.val
  go_enter Try.func22, Try.ntmps22
  go_wp2
  refine bodyPost_ret (results_cell_row rfl _ _ _ _ _ _ _ rfl (heap_new (by simp)) Try.underlying44 rfl infoWant) rfl ⟨rfl, below_alloc _ _⟩



set_option maxHeartbeats 2000000 in
theorem Plays_walk (w : World) (base most call : Int) (av wv : Value) (xs ws : List Int) (ha : Reads w w.heap.size av xs) (hw : Reads w w.heap.size wv ws) :
    Calls Try.prog 5 #[asked base most call av wv] w (True_ w) := by
  unfold asked
  have ba := below_alloc w (.cells #[.int .i64 base, .int .i64 most, .int .i64 call, av, wv] 36)
  have HA := Lib.hid (ha.below ba)
  have HW := Lib.hid (hw.below ba)
  clear ha hw ba
  by_cases hok : takesB base most (arityI call) xs.length = true
  · have HS := Lib.hid (sim_init hok)
    go_enter Try.func5, Try.ntmps5
    go_wp2_with fail
    refine (New_yes _ _ base most call _ xs HA.out (by simp) hok).mono ?_
    rintro e w1 ⟨p, hp, rfl, hb1, F, rep1, hF⟩
    simp only [World.size_alloc] at hF
    have hA1 := box_keep hb1 (heap_new (w := w) rfl)
    obtain ⟨cA0, cA1, cA2, cA3, cA4⟩ := box5 hA1
    have HB := Lib.hid hA1
    clear hA1
    go_wp2_with fail
    refine (right_calls _ _ base most call _ xs (HA.out.below (hb1.mono (by simp)))).mono ?_
    rintro e w2 ⟨rfl, rfl⟩
    rw [hok]
    go_wp2_with fail
    refine (play_calls _ w.heap.size _ base most call _ _ xs ws _ F (HA.out.below (hb1.mono (by simp))) (HW.out.below (hb1.mono (by simp))) rep1 (fun q hq => by have := hF q hq; omega) (by have := hb1.size; simp at this; omega) HS.out).mono ?_
    rintro e w2 ⟨rfl, hb2⟩
    go_wp2
    go_ret
    exact ⟨rfl, (below_trans (below_alloc _ _) hb1).trans hb2⟩
  · have hno : takesB base most (arityI call) xs.length = false := by simpa using hok
    clear hok
    go_enter Try.func5, Try.ntmps5
    go_wp2_with fail
    refine (New_no _ _ base most call _ xs HA.out hno).mono ?_
    rintro e w1 ⟨rfl, hb1⟩
    have hA1 := box_keep hb1 (heap_new (w := w) rfl)
    obtain ⟨cA0, cA1, cA2, cA3, cA4⟩ := box5 hA1
    clear hA1
    go_wp2_with fail
    refine (right_calls _ _ base most call _ xs (HA.out.below (hb1.mono (by simp)))).mono ?_
    rintro e w2 ⟨rfl, rfl⟩
    rw [hno]
    go_wp2
    go_ret
    exact ⟨rfl, below_trans (below_alloc _ _) hb1⟩

set_option maxHeartbeats 2000000 in
theorem Nil_walk (w : World) (base most v : Int) : Calls Try.prog 8 #[.int .i64 base, .int .i64 most, .int .i64 v] w (True_ w) := by
  have hno : takesB base most (arityI 0) (([] : List Int).length : Int) = false := takesB_f (.inr (.inr (.inr (by decide))))
  go_enter Try.func8, Try.ntmps8
  go_wp2_with fail
  refine (Next_nil _ v).mono ?_
  rintro e w1 ⟨rfl, hb1⟩
  unfold w0 WantS.val
  go_wp2_with fail
  refine (New_no _ 0 base most 0 _ [] (reads_nil _ _) hno).mono ?_
  rintro e wn ⟨rfl, hbn⟩
  have h0 := box_keep hbn (heap_new (w := w1) rfl)
  obtain ⟨⟨c0, c1, c2, c3⟩, -, hz0⟩ := box4 h0
  have H0 := Lib.hid h0
  clear h0 c0 c1 c2 c3
  go_wp2_with fail
  refine (Next_nil _ v).mono ?_
  rintro e w2 ⟨rfl, hb2⟩
  unfold w0 WantS.val
  have h1 := box_keep hb2 H0.out
  obtain ⟨⟨c0, c1, c2, c3⟩, -, hz⟩ := box4 h1
  clear h1
  go_wp2
  go_ret
  exact ⟨rfl, below_alloc_of (below_trans (below_trans (below_alloc_of hb1 _) hbn) hb2) _⟩

end Go.Proofs.Ytihlbhlagpmbjaa
