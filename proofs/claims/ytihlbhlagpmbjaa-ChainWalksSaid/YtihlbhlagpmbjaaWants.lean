/- The contracts of the laws' wants and right. -/
import Derived.Test.YtihlbhlagpmbjaaRef18
namespace Go.Proofs.Ytihlbhlagpmbjaa
open Go.RowKit

def wantsS (base most call : Int) (xs read : List Int) (writes : Int) (last : WantS) : WantS :=
  if last.kind = 6 then last else refS base most call xs read writes

set_option maxHeartbeats 1000000 in
theorem wants_calls (w : World) (B : Nat) (base most call writes : Int) (a r : Value) (xs read : List Int) (last : WantS) (ha : Reads w B a xs) (hr : Reads w B r read) (hB : B ≤ w.heap.size)
    (hok : Askable base most call xs) :
    Calls Try.prog 23 #[.int .i64 base, .int .i64 most, .int .i64 call, a, r, .int .i64 writes, last.val] w (Gives (wantsS base most call xs read writes last).val w) := by
  obtain ⟨l0, l1, l2, l3⟩ := last
  by_cases hk : l0 = 6
  · subst hk
    have e : wantsS base most call xs read writes ⟨6, l1, l2, l3⟩ = ⟨6, l1, l2, l3⟩ := if_pos rfl
    rw [e]
    simp only [WantS.val]
    clear ha hr hok e
    go_enter Try.func23, Try.ntmps23
    go_wp2
    refine bodyPost_ret (results_cell_row rfl _ _ _ _ _ _ _ rfl (heap_new (by simp)) Try.underlying44 rfl infoWant) rfl ⟨rfl, below_alloc_of (below_alloc _ _) _⟩
  · have e : wantsS base most call xs read writes ⟨l0, l1, l2, l3⟩ = refS base most call xs read writes := if_neg hk
    have hk' : (l0 == 6) = false := by simpa using hk
    rw [e]
    have HA := Lib.hid ha
    have HR := Lib.hid hr
    have HO := Lib.hid hok
    generalize hS : refS base most call xs read writes = S
    have HS := Lib.hid hS
    simp only [WantS.val]
    clear e hk ha hr hok hS
    go_enter Try.func23, Try.ntmps23
    go_wp2_with (go_at_call 46; refine (refNext_calls _ B _ _ _ _ _ _ _ _ (HA.out.below (((Below.refl _ _).alloc hB _).alloc (by simp; omega) _)) (HR.out.below (((Below.refl _ _).alloc hB _).alloc (by simp; omega) _)) (by simp; omega) HO.out).mono ?_; rintro e w1 ⟨rfl, hb1⟩; have hg1 := box_keep hb1 (heap_new (n := w.heap.size + 1) (by simp)); obtain ⟨_, ⟨f0, f1, f2, f3⟩, hz⟩ := box4 hg1; simp only [HS.out, WantS.val])
    refine bodyPost_ret (results_cell_row rfl _ _ _ _ _ _ _ rfl (heap_set (heap_set (heap_set (heap_set hg1)))) Try.underlying44 rfl infoWant) rfl ⟨rfl, ?_⟩
    exact ((((below_trans (below_alloc_of (below_alloc _ _) _) hb1).setCell (by simp) _).setCell (by simp) _).setCell (by simp) _).setCell (by simp) _

theorem right_calls (w : World) (B : Nat) (base most call : Int) (a : Value) (xs : List Int) (ha : Reads w B a xs) :
    Calls Try.prog 20 #[.int .i64 base, .int .i64 most, .int .i64 call, a] w (Just (.bool (takesB base most (arityI call) xs.length)) w) := by
  obtain ⟨hxl, hxr, a, ca, rfl, hca, ha⟩ := ha
  clear ha hxr
  go_enter Try.func20, Try.ntmps20
  go_wp2_with (first | (go_at_call 26; refine (Arity_calls _ _).mono ?_; rintro e w' ⟨rfl, rfl⟩) | (go_at_call 45; refine (Takes_calls _ _ _ _ _).mono ?_; rintro e w' ⟨rfl, rfl⟩))
  go_ret
  exact ⟨rfl, rfl⟩

end Go.Proofs.Ytihlbhlagpmbjaa
