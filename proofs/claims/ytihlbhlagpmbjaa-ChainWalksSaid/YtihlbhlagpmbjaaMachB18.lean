/- The chain's machine: the contracts of its closures (printed by gen_mach18.py). -/
import Derived.Test.YtihlbhlagpmbjaaMachP18
namespace Go.Proofs.Ytihlbhlagpmbjaa
open Go.RowKit

theorem box_in {w : World} {p : Nat} {B : List Ent} {b : Nat} {a : Value} {t : TypeId} (hs : Store w p B) (h : ⟨b, #[a], t⟩ ∈ B) : w.cell? ⟨b, 0, none⟩ = some a ∧ b < w.heap.size ∧ b ≠ p := by
  obtain ⟨h1, h2⟩ := hs _ h
  have hc := cell_of_row w b 0 _ _ _ h2
  exact ⟨by simpa using hc, (Array.getElem?_eq_some_iff.1 h2).1, h1⟩
theorem way_in {w : World} {p : Nat} {B : List Ent} {b : Nat} {d : WayD} (hs : Store w p B) (h : WB B d b) :
    (w.cell? ⟨b, 0, none⟩ = some (.int .i64 d.cell) ∧ w.cell? ⟨b, 1, none⟩ = some (.int .i64 d.p) ∧ w.cell? ⟨b, 2, none⟩ = some (.bool d.stopped) ∧ w.cell? ⟨b, 3, none⟩ = some (.int .i64 d.key) ∧ w.cell? ⟨b, 4, none⟩ = some (.bool d.at_)) ∧ b < w.heap.size ∧ b ≠ p := by
  obtain ⟨h1, h2⟩ := hs _ h
  have hc := fun j => cell_of_row w b j _ _ _ h2
  refine ⟨⟨?_, ?_, ?_, ?_, ?_⟩, (Array.getElem?_eq_some_iff.1 h2).1, h1⟩
  · exact (hc 0).trans rfl
  · exact (hc 1).trans rfl
  · exact (hc 2).trans rfl
  · exact (hc 3).trans rfl
  · exact (hc 4).trans rfl
theorem just_drew {f : FuncId} {args : Array Value} {w : World} {v : Value} (h : ∀ W, W.heap = w.heap → Calls Try.prog f args W (Just v W)) (n : Nat) :
    Calls Try.prog f args (w.drewN n) fun e w'' => e = .returned v ∧ ∃ m, w'' = w.drewN m := (h (w.drewN n) rfl).mono fun _ _ ⟨h1, h2⟩ => ⟨h1, n, h2.symm⟩

end Go.Proofs.Ytihlbhlagpmbjaa
