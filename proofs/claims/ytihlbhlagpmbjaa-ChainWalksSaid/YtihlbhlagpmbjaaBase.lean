/- Plain words and lemmas for the walks of this seat: wants as data, what a call leaves, slices of integers that read as lists; no program in sight. -/
import Derived.WalkKit
import Derived.BigQuiet
import Derived.Deep.QuietTactic
namespace Go.Proofs.Ytihlbhlagpmbjaa
open Go.RowKit

/-- A want as data. -/
structure WantS where
  kind : Int
  cell : Int
  value : Int
  code : Int

def WantS.val (x : WantS) : Value := .agg #[.int .i64 x.kind, .int .i64 x.cell, .int .i64 x.value, .int .i64 x.code]
def w0 : WantS := ⟨0, 0, 0, 0⟩
def endS (v code : Int) : WantS := ⟨6, 0, if code = 0 then v else 0, code⟩
def readS (cell : Int) : WantS := ⟨2, cell, 0, 0⟩
def putS (cell v : Int) : WantS := ⟨3, cell, v, 0⟩

/-- What a call leaves that makes memory of its own alone, and hands back v. -/
def Gives (v : Value) (w : World) (e : Ending) (w' : World) : Prop := e = .returned v ∧ Below w.heap.size w w'
/-- What a call leaves that touches nothing. -/
def Just (v : Value) (w : World) (e : Ending) (w' : World) : Prop := e = .returned v ∧ w = w'

theorem below_alloc (w : World) (o : Obj) : Below w.heap.size w (w.alloc o) := (Below.refl _ _).alloc (Nat.le_refl _) _
theorem below_trans {a b c : World} (h : Below a.heap.size a b) (k : Below b.heap.size b c) : Below a.heap.size a c := h.trans (k.mono h.size)
theorem below_alloc_of {w w' : World} (h : Below w.heap.size w w') (o : Obj) : Below w.heap.size w (w'.alloc o) := h.alloc h.size _

/-- A slice of int64 that reads as a list; its cells lie below block B. -/
def Reads (w : World) (B : Nat) (v : Value) (xs : List Int) : Prop :=
  xs.length ≤ 17592186043904 ∧ (∀ x ∈ xs, -9223372036854775808 ≤ x ∧ x ≤ 9223372036854775807) ∧
  ∃ (a : Option Addr) (c : Nat), v = .slice a xs.length c ∧ xs.length ≤ c ∧
    (xs = [] ∨ ∃ b off, a = some ⟨b, off, none⟩ ∧ b < B ∧ ∀ i, i < xs.length → w.cell? ⟨b, off + i, none⟩ = some (.int .i64 (xs.getD i 0)))

theorem Reads.below {w w' : World} {B : Nat} {v : Value} {xs : List Int} (h : Reads w B v xs) (hb : Below B w w') : Reads w' B v xs := by
  obtain ⟨h1, h2, a, c, rfl, hc, h3⟩ := h
  refine ⟨h1, h2, a, c, rfl, hc, ?_⟩
  rcases h3 with h3 | ⟨b, off, rfl, hB, hcell⟩
  · exact .inl h3
  · exact .inr ⟨b, off, rfl, hB, fun i hi => (hb.cell (p := ⟨b, off + i, none⟩) hB).trans (hcell i hi)⟩
theorem Reads.mono {w : World} {B B' : Nat} {v : Value} {xs : List Int} (h : Reads w B v xs) (hb : B ≤ B') : Reads w B' v xs := by
  obtain ⟨h1, h2, a, c, rfl, hc, h3⟩ := h
  refine ⟨h1, h2, a, c, rfl, hc, ?_⟩
  rcases h3 with h3 | ⟨b, off, rfl, hB, hcell⟩
  · exact .inl h3
  · exact .inr ⟨b, off, rfl, by omega, hcell⟩
theorem reads_nil (w : World) (B : Nat) : Reads w B (.slice none 0 0) [] := ⟨by simp, by simp, none, 0, rfl, by simp, .inl rfl⟩

theorem heap_new {w : World} {o : Obj} {n : Nat} (h : n = w.heap.size) : (w.alloc o).heap[n]? = some o := by subst h; exact Go.heap_alloc_new w o
theorem heap_old {w : World} {o x : Obj} {n : Nat} (h : w.heap[n]? = some x) : (w.alloc o).heap[n]? = some x := by
  rw [Go.RowKit.Below.heap_alloc w o n (Array.getElem?_eq_some_iff.1 h).1]; exact h
theorem heap_set {w : World} {p i : Nat} {cs : Array Value} {t : TypeId} {v : Value} (h : w.heap[p]? = some (.cells cs t (0, 0))) :
    (w.setCell ⟨p, i, none⟩ v).heap[p]? = some (.cells (cs.setIfInBounds i v) t (0, 0)) := heap_setCell_same w p i cs t v h
theorem heap_set_other {w : World} {q : Addr} {n : Nat} {x : Obj} {v : Value} (h : w.heap[n]? = some x) (hne : n ≠ q.block) : (w.setCell q v).heap[n]? = some x := by
  rw [heap_setCell_other w q n v hne]; exact h
theorem grown_refl (w : World) (r : Option Nat) : w.grownBy w r := ⟨rfl, rfl, rfl, Nat.le_refl _, fun _ _ _ => rfl⟩
theorem grown_set {a w : World} {p i : Nat} (h : a.grownBy w (some p)) (v : Value) : a.grownBy (w.setCell ⟨p, i, none⟩ v) (some p) :=
  ⟨h.os, h.tape, h.output, by simpa [World.setCell] using h.size, fun k hk hne => (heap_setCell_other w ⟨p, i, none⟩ k v (fun e => hne (by rw [e]))).trans (h.block k hk hne)⟩
theorem grown_alloc {a w : World} {r : Option Nat} (h : a.grownBy w r) (o : Obj) : a.grownBy (w.alloc o) r :=
  ⟨h.os, h.tape, h.output, by have := h.size; simp; omega, fun k hk hne => (Go.RowKit.Below.heap_alloc w o k (Nat.lt_of_lt_of_le hk h.size)).trans (h.block k hk hne)⟩
theorem grown_drewN {a w : World} {r : Option Nat} (h : a.grownBy w r) (n : Nat) : a.grownBy (w.drewN n) r := ⟨h.os, h.tape, h.output, h.size, h.block⟩
theorem grown_drew {a w : World} {r : Option Nat} (h : a.grownBy w r) : a.grownBy w.drew r := ⟨h.os, h.tape, h.output, h.size, h.block⟩

/-- A block of the call's own, kept by a call that makes memory of its own alone. -/
theorem box_keep {W w1 : World} (hb : Below W.heap.size W w1) {g : Nat} {o : Obj} (h : W.heap[g]? = some o) : w1.heap[g]? = some o :=
  (hb.block g (Array.getElem?_eq_some_iff.1 h).1).trans h
theorem box_grown {W w1 : World} {p : Nat} (hb : W.grownBy w1 (some p)) {g : Nat} {o : Obj} (h : W.heap[g]? = some o) (hne : g ≠ p) : w1.heap[g]? = some o :=
  (hb.block g (Array.getElem?_eq_some_iff.1 h).1 (fun e => hne (by injection e))).trans h
/-- The four cells of a want's block. -/
theorem box4 {w : World} {g : Nat} {a b c d : Value} {t : TypeId} (h : w.heap[g]? = some (.cells #[a, b, c, d] t (0, 0))) :
    (w.cell? ⟨g, 0, none⟩ = some a ∧ w.cell? ⟨g, 1, none⟩ = some b ∧ w.cell? ⟨g, 2, none⟩ = some c ∧ w.cell? ⟨g, 3, none⟩ = some d) ∧
    (w.frozen? ⟨g, 0, none⟩ = false ∧ w.frozen? ⟨g, 1, none⟩ = false ∧ w.frozen? ⟨g, 2, none⟩ = false ∧ w.frozen? ⟨g, 3, none⟩ = false) ∧ g < w.heap.size := by
  have hc := fun j => cell_of_row w g j _ _ _ h
  have hf := fun j => frozen_of_row w g j _ _ h
  refine ⟨⟨?_, ?_, ?_, ?_⟩, ⟨hf 0, hf 1, hf 2, hf 3⟩, (Array.getElem?_eq_some_iff.1 h).1⟩
  · simpa using hc 0
  · simpa using hc 1
  · simpa using hc 2
  · simpa using hc 3

end Go.Proofs.Ytihlbhlagpmbjaa
