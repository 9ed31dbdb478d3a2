/- The machine of the counter: its states as data, what it does, and the contracts of New and Next. -/
import Derived.Test.YtojenaghbfidlaaLeaf
import Derived.Test.YtojenaghbfidlaaNums
import Derived.BigRegion
namespace Go.Proofs.Ytojenaghbfidlaa
open Go.RowKit

structure MS where
  cell : Int
  add : Bool
  bys : Int
  phase : Int
  last : WantS

def MS.cells (m : MS) : Array Value := #[.int .i64 m.cell, .bool m.add, .int .i64 m.bys, .int .i64 m.phase, .int .i64 m.last.kind, .int .i64 m.last.cell, .int .i64 m.last.value, .int .i64 m.last.code]

/-- The machine lies in block p. -/
def Rep (w : World) (p : Nat) (m : MS) (F : List Nat) : Prop := F = [p] ∧ w.heap[p]? = some (.cells m.cells 58 (0, 0))

def outM (m : MS) (v : Int) : WantS :=
  if m.phase = 0 then readS m.cell
  else if m.phase = 1 then (if m.add then putS m.cell (wrap64 (v + m.bys)) else ⟨6, 0, wrap64 (v + m.bys), 0⟩)
  else m.last
def stepM (m : MS) (v : Int) : MS :=
  if m.phase = 0 then { m with phase := 1 }
  else if m.phase = 1 then { m with phase := if m.add then 2 else 3, last := ⟨6, 0, wrap64 (v + m.bys), 0⟩ }
  else m

/-- What a Next leaves. -/
def NextPost (p : Nat) (m : MS) (F : List Nat) (v : Int) (w : World) (e : Ending) (w' : World) : Prop :=
  e = .returned (outM m v).val ∧ w.grownBy w' (some p) ∧ ∃ F', Rep w' p (stepM m v) F' ∧ ∀ k ∈ F', k ∈ F ∨ w.heap.size ≤ k

set_option maxHeartbeats 1000000 in
theorem Next_calls (w : World) (p : Nat) (m : MS) (F : List Nat) (v : Int) (hr : Rep w p m F) :
    Calls Try.prog 21 #[.pointer (some ⟨p, 0, none⟩), .int .i64 v] w (NextPost p m F v w) := by
  obtain ⟨rfl, hp⟩ := hr
  have hlt : p < w.heap.size := (Array.getElem?_eq_some_iff.1 hp).1
  obtain ⟨c, ad, b, ph, ⟨l0, l1, l2, l3⟩⟩ := m
  unfold MS.cells at hp
  have hc : ∀ j, w.cell? ⟨p, j, none⟩ = _ := fun j => cell_of_row w p j _ _ _ hp
  have hf : ∀ j, w.frozen? ⟨p, j, none⟩ = false := fun j => frozen_of_row w p j _ _ hp
  have h0 := hc 0
  have h1 := hc 1
  have h2 := hc 2
  have h3 := hc 3
  have h4 := hc 4
  have h5 := hc 5
  have h6 := hc 6
  have h7 := hc 7
  simp at h0 h1 h2 h3 h4 h5 h6 h7
  have f3 := hf 3
  have f4 := hf 4
  have f5 := hf 5
  have f6 := hf 6
  have f7 := hf 7
  have HP := Lib.hid hp
  clear hp hc hf
  by_cases hp0 : ph = 0
  · subst hp0
    go_enter Try.func21, Try.ntmps21
    go_wp2
    refine bodyPost_ret (results_cell_row rfl _ _ _ _ _ _ _ rfl (heap_new (by simp)) Try.underlying44 rfl infoWant) rfl ⟨rfl, grown_alloc (grown_set (grown_refl _ _) _) _, [p], ⟨rfl, ?_⟩, fun k hk => .inl (by simpa using hk)⟩
    exact heap_old (heap_set HP.out)
  · have hp0' : (ph == 0) = false := by simpa using hp0
    by_cases hp1 : ph = 1
    · subst hp1
      cases ad
      · go_enter Try.func21, Try.ntmps21
        go_wp2
        refine bodyPost_ret (results_cell_row rfl _ _ _ _ _ _ _ rfl (heap_new (by simp)) Try.underlying44 rfl infoWant) rfl ⟨rfl, grown_alloc (grown_set (grown_set (grown_set (grown_set (grown_set (grown_refl _ _) _) _) _) _) _) _, [p], ⟨rfl, ?_⟩, fun k hk => .inl (by simpa using hk)⟩
        exact heap_old (heap_set (heap_set (heap_set (heap_set (heap_set HP.out)))))
      · go_enter Try.func21, Try.ntmps21
        go_wp2
        go_region
        go_wp2
        refine bodyPost_ret (results_cell_row rfl _ _ _ _ _ _ _ rfl (heap_new (by simp)) Try.underlying44 rfl infoWant) rfl ⟨rfl, grown_drew (grown_alloc (grown_set (grown_set (grown_set (grown_set (grown_set (grown_set (grown_refl _ _) _) _) _) _) _) _) _), [p], ⟨rfl, ?_⟩, fun k hk => .inl (by simpa using hk)⟩
        exact heap_old (heap_set (heap_set (heap_set (heap_set (heap_set (heap_set HP.out))))))
    · have hp1' : (ph == 1) = false := by simpa using hp1
      have ho : outM ⟨c, ad, b, ph, ⟨l0, l1, l2, l3⟩⟩ v = ⟨l0, l1, l2, l3⟩ := by simp [outM, hp0, hp1]
      have hs : stepM ⟨c, ad, b, ph, ⟨l0, l1, l2, l3⟩⟩ v = ⟨c, ad, b, ph, ⟨l0, l1, l2, l3⟩⟩ := by simp [stepM, hp0, hp1]
      unfold NextPost
      rw [ho, hs]
      clear hp0 hp1 ho hs
      go_enter Try.func21, Try.ntmps21
      go_wp2
      refine bodyPost_ret (results_cell_row rfl _ _ _ _ _ _ _ rfl (heap_new (by simp)) Try.underlying44 rfl infoWant) rfl ⟨rfl, grown_alloc (grown_refl _ _) _, [p], ⟨rfl, ?_⟩, fun k hk => .inl (by simpa using hk)⟩
      exact heap_old HP.out

end Go.Proofs.Ytojenaghbfidlaa
