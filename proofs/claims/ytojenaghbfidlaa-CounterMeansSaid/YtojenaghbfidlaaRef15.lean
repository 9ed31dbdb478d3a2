/- The contract of the reference's Next of layer 15. -/
import Derived.Test.YtojenaghbfidlaaNew15
namespace Go.Proofs.Ytojenaghbfidlaa
open Go.RowKit

/-- What the chapter wants next. -/
def refS (base most call : Int) (xs read : List Int) (writes : Int) : WantS :=
  if xs.getD 0 0 < 0 ∨ most ≤ xs.getD 0 0 then endS 0 1
  else if read = [] then readS (base + xs.getD 0 0)
  else if call = 2 then endS (read.getD 0 0) 0
  else if writes = 0 then putS (base + xs.getD 0 0) (wrap64 (read.getD 0 0 + xs.getD 1 0))
  else endS (wrap64 (read.getD 0 0 + xs.getD 1 0)) 0

/-- May the reference's Next be asked so? -/
def Askable (base most call : Int) (xs : List Int) : Prop := 0 ≤ base ∧ base ≤ 1024 ∧ 0 ≤ most ∧ most ≤ 16 ∧ (call = 1 ∧ xs.length = 2 ∨ call = 2 ∧ xs.length = 1)

theorem askable_of {base most call : Int} {xs : List Int} (h : takesB base most (arityI call) xs.length = true) : Askable base most call xs := by
  obtain ⟨⟨hm0, hm16⟩, hb0, hb1, har⟩ := of_decide_eq_true h
  refine ⟨hb0, hb1, hm0, hm16, ?_⟩
  unfold arityI at har
  split at har
  · left; omega
  · split at har
    · right; omega
    · omega

set_option maxHeartbeats 2000000 in
theorem refNext_calls (w : World) (B : Nat) (base most call writes : Int) (a r : Value) (xs read : List Int) (ha : Reads w B a xs) (hr : Reads w B r read) (hB : B ≤ w.heap.size)
    (hok : Askable base most call xs) :
    Calls Try.prog 29 #[.int .i64 base, .int .i64 most, .int .i64 call, a, r, .int .i64 writes] w (Gives (refS base most call xs read writes).val w) := by
  obtain ⟨hxl, hxr, a, ca, rfl, hca, ha⟩ := ha
  obtain ⟨hrl, hrr, r, cr, rfl, hcr, hr⟩ := hr
  obtain ⟨hb0, hb1, hm0, hm1, hcase⟩ := hok
  have hne : xs ≠ [] := by rintro rfl; simp at hcase
  rcases ha with h | ⟨b, off, rfl, hBb, hcell⟩
  · exact absurd h hne
  have hpos : 0 < xs.length := by cases xs <;> simp_all
  have c0 := hcell 0 hpos
  have hri := hxr (xs.getD 0 0) (by cases xs <;> simp_all)
  have hp1 : (0 : Int) < xs.length := by omega
  have hbs : b < w.heap.size := by omega
  have hbne : b ≠ w.heap.size := by omega
  generalize hi : xs.getD 0 0 = i at *
  have HI := Lib.hid hi
  rw [Nat.add_zero] at c0
  by_cases hout : i < 0 ∨ most ≤ i
  · have hin : refS base most call xs read writes = endS 0 1 := by unfold refS; rw [HI.out]; exact if_pos hout
    rw [hin]
    clear hin hi hcell hxr hrr hr hcase
    rcases (show i < 0 ∨ (0 ≤ i ∧ most ≤ i) from by omega) with h | ⟨h, h'⟩
    all_goals
      clear hout
      go_enter Try.func29, Try.ntmps29
      go_wp2_with (go_at_call 30; refine (End_calls _ _ _).mono ?_; rintro e w1 ⟨rfl, hb1⟩; have hg1 := box_keep hb1 (heap_new (n := w.heap.size) (by simp)); obtain ⟨_, ⟨f0, f1, f2, f3⟩, hz⟩ := box4 hg1; simp only [WantS.val])
      refine bodyPost_ret (results_cell_row rfl _ _ _ _ _ _ _ rfl (heap_set (heap_set (heap_set (heap_set hg1)))) Try.underlying44 rfl infoWant) rfl ⟨rfl, ?_⟩
      exact ((((below_trans (below_alloc _ _) hb1).setCell (by simp) _).setCell (by simp) _).setCell (by simp) _).setCell (by simp) _
  · have h0i : 0 ≤ i := by omega
    have him : i < most := by omega
    by_cases hrd : read = []
    · subst hrd
      have hin : refS base most call xs [] writes = readS (base + i) := by unfold refS; rw [HI.out, if_neg hout, if_pos rfl]
      rw [hin]
      clear hin hi hcell hxr hrr hr hcase hout
      go_enter Try.func29, Try.ntmps29
      go_wp2_with (go_at_call 31; refine (Read_calls _ _).mono ?_; rintro e w1 ⟨rfl, hb1⟩; have hg1 := box_keep hb1 (heap_new (n := w.heap.size) (by simp)); obtain ⟨_, ⟨f0, f1, f2, f3⟩, hz⟩ := box4 hg1; simp only [WantS.val])
      refine bodyPost_ret (results_cell_row rfl _ _ _ _ _ _ _ rfl (heap_set (heap_set (heap_set (heap_set hg1)))) Try.underlying44 rfl infoWant) rfl ⟨rfl, ?_⟩
      exact ((((below_trans (below_alloc _ _) hb1).setCell (by simp) _).setCell (by simp) _).setCell (by simp) _).setCell (by simp) _
    · rcases hr with hr | ⟨b2, off2, rfl, hBb2, hcell2⟩
      · exact absurd hr hrd
      have hpos2 : 0 < read.length := by cases read <;> simp_all
      have c2 := hcell2 0 hpos2
      have hrv := hrr (read.getD 0 0) (by cases read <;> simp_all)
      have hp2 : (0 : Int) < read.length := by omega
      have hz2 : ((read.length : Int) == 0) = false := by simp; omega
      have hbs2 : b2 < w.heap.size := by omega
      have hbne2 : b2 ≠ w.heap.size := by omega
      generalize hv : read.getD 0 0 = v at *
      have HV := Lib.hid hv
      rw [Nat.add_zero] at c2
      rcases hcase with ⟨rfl, hl⟩ | ⟨rfl, hl⟩
      · have c1 := hcell 1 (by omega)
        have hrd1 := hxr (xs.getD 1 0) (by match xs, hl with | [_, d], _ => simp)
        have hp3 : (1 : Int) < xs.length := by omega
        generalize hd : xs.getD 1 0 = d at *
        have HD := Lib.hid hd
        by_cases hw : writes = 0
        · subst hw
          have hin : refS base most 1 xs read 0 = putS (base + i) (wrap64 (v + d)) := by unfold refS; rw [HI.out, HV.out, HD.out, if_neg hout, if_neg hrd, if_neg (by decide), if_pos rfl]
          rw [hin]
          clear hin hi hcell hxr hrr hcell2 hl hd hv hout hrd hne
          go_enter Try.func29, Try.ntmps29
          go_wp2_with (go_at_call 32; refine (Put_calls _ _ _).mono ?_; rintro e w1 ⟨rfl, hb1⟩; have hg1 := box_keep hb1 (heap_new (n := w.heap.size) (by simp)); obtain ⟨_, ⟨f0, f1, f2, f3⟩, hz⟩ := box4 hg1; simp only [WantS.val])
          refine bodyPost_ret (results_cell_row rfl _ _ _ _ _ _ _ rfl (heap_set (heap_set (heap_set (heap_set hg1)))) Try.underlying44 rfl infoWant) rfl ⟨rfl, ?_⟩
          exact ((((below_trans (below_alloc _ _) hb1).setCell (by simp) _).setCell (by simp) _).setCell (by simp) _).setCell (by simp) _
        · have hin : refS base most 1 xs read writes = endS (wrap64 (v + d)) 0 := by unfold refS; rw [HI.out, HV.out, HD.out, if_neg hout, if_neg hrd, if_neg (by decide), if_neg hw]
          rw [hin]
          have hw' : (writes == 0) = false := by simpa using hw
          clear hin hi hcell hxr hrr hcell2 hl hd hv hout hrd hne hw
          go_enter Try.func29, Try.ntmps29
          go_wp2_with (go_at_call 30; refine (End_calls _ _ _).mono ?_; rintro e w1 ⟨rfl, hb1⟩; have hg1 := box_keep hb1 (heap_new (n := w.heap.size) (by simp)); obtain ⟨_, ⟨f0, f1, f2, f3⟩, hz⟩ := box4 hg1; simp only [WantS.val])
          refine bodyPost_ret (results_cell_row rfl _ _ _ _ _ _ _ rfl (heap_set (heap_set (heap_set (heap_set hg1)))) Try.underlying44 rfl infoWant) rfl ⟨rfl, ?_⟩
          exact ((((below_trans (below_alloc _ _) hb1).setCell (by simp) _).setCell (by simp) _).setCell (by simp) _).setCell (by simp) _
      · have hin : refS base most 2 xs read writes = endS v 0 := by unfold refS; rw [HV.out, if_neg (by rw [HI.out]; exact hout), if_neg hrd, if_pos rfl]
        rw [hin]
        clear hin hi hcell hxr hrr hcell2 hl hv hout hrd hne
        go_enter Try.func29, Try.ntmps29
        go_wp2_with (go_at_call 30; refine (End_calls _ _ _).mono ?_; rintro e w1 ⟨rfl, hb1⟩; have hg1 := box_keep hb1 (heap_new (n := w.heap.size) (by simp)); obtain ⟨_, ⟨f0, f1, f2, f3⟩, hz⟩ := box4 hg1; simp only [WantS.val])
        refine bodyPost_ret (results_cell_row rfl _ _ _ _ _ _ _ rfl (heap_set (heap_set (heap_set (heap_set hg1)))) Try.underlying44 rfl infoWant) rfl ⟨rfl, ?_⟩
        exact ((((below_trans (below_alloc _ _) hb1).setCell (by simp) _).setCell (by simp) _).setCell (by simp) _).setCell (by simp) _

end Go.Proofs.Ytojenaghbfidlaa
