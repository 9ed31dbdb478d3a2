/- What the chain's cells say, as data. -/
import Derived.Test.YtihlbhlagpmbjaaRowR18
namespace Go.Proofs.Ytihlbhlagpmbjaa
open Go.RowKit

def usedC (cs : List Int) : Int := cs.getD 2 0
/-- The chain's nodes; then those of the free list. -/
def rowA (cs : List Int) : Bool × List Int × List Int := rowF cs (usedC cs) 17 (cs.getD 0 0) [] []
def rowB (cs : List Int) : Bool × List Int × List Int := rowF cs (usedC cs) (17 - (rowA cs).2.2.length) (cs.getD 1 0) (rowA cs).2.2 []
def keysC (cs : List Int) (l : List Int) : List Int := l.map fun p => cs.getD (keyI p).toNat 0
/-- The first k keys rise. -/
def Rises (v : List Int) (k : Nat) : Prop := ∀ i, i + 1 < k → v.getD i 0 < v.getD (i + 1) 0
def risesB : List Int → Bool
  | [] => true
  | [_] => true
  | a :: b :: l => decide (a < b) && risesB (b :: l)
theorem rises_iff : ∀ (v : List Int), risesB v = true ↔ Rises v v.length
  | [] => ⟨fun _ i hi => by simp at hi, fun _ => rfl⟩
  | [a] => ⟨fun _ i hi => by simp at hi, fun _ => rfl⟩
  | a :: b :: l => by
    have ih := rises_iff (b :: l)
    unfold risesB
    rw [Bool.and_eq_true, decide_eq_true_eq, ih]
    constructor
    · rintro ⟨h1, h2⟩ i hi
      cases i with
      | zero => simpa using h1
      | succ i => simpa using h2 i (by simp at hi ⊢; omega)
    · intro h
      refine ⟨by simpa using h 0 (by simp), fun i hi => ?_⟩
      simpa using h (i + 1) (by simp at hi ⊢; omega)

def shapeOk (most : Int) (xs : List Int) : Bool := decide ((0 ≤ most ∧ most ≤ 16) ∧ (xs.length : Int) = sizeI most)
def usedOk (most : Int) (cs : List Int) : Bool := decide (0 ≤ usedC cs ∧ usedC cs ≤ most)
def rowsOk (cs : List Int) : Bool := (rowA cs).1 && (rowB cs).1 && decide (((rowB cs).2.2.length : Int) = usedC cs)
/-- What cells say: the kind, the values, what is wrong. -/
def shapeS (most : Int) (cs : List Int) : Int × List Int × Int :=
  if shapeOk most cs = true then
    (if usedOk most cs = true ∧ rowsOk cs = true ∧ risesB (keysC cs (rowA cs).2.1) = true then (4, keysC cs (rowA cs).2.1, 0) else (0, [], 12))
  else (0, [], 1)

theorem rowF_ok {cs : List Int} {u : Int} : ∀ {f : Nat} {p : Int} {S l L S' : List Int}, rowF cs u f p S l = (true, L, S') → ∃ L', L = l ++ L' ∧ S' = L'.reverse ++ S ∧ ∀ x ∈ L', leadsP u x
  | 0, p, S, l, L, S', h => by
    unfold rowF at h
    split at h
    · injection h with _ h
      injection h with h1 h2
      subst h1 h2
      exact ⟨[], by simp, by simp, fun x hx => nomatch hx⟩
    · injection h with h _
      cases h
  | f + 1, p, S, l, L, S', h => by
    unfold rowF at h
    split at h
    · injection h with _ h
      injection h with h1 h2
      subst h1 h2
      exact ⟨[], by simp, by simp, fun x hx => nomatch hx⟩
    · split at h
      · rename_i hc
        obtain ⟨L', h1, h2, h3⟩ := rowF_ok h
        refine ⟨p :: L', by rw [h1]; simp, by rw [h2]; simp, fun x hx => ?_⟩
        rcases List.mem_cons.1 hx with rfl | hx
        · exact hc.1
        · exact h3 x hx
      · injection h with h _
        cases h
theorem rowF_marks {cs : List Int} {u : Int} : ∀ {f : Nat} {p : Int} {S l : List Int}, Marks u S → Marks u (rowF cs u f p S l).2.2
  | 0, p, S, l, h => by
    unfold rowF
    split <;> exact h
  | f + 1, p, S, l, h => by
    unfold rowF
    split
    · exact h
    · split
      · rename_i hc
        exact rowF_marks (h.cons hc.1 hc.2)
      · exact h
theorem rowA_ok {cs : List Int} (h : (rowA cs).1 = true) : (rowA cs).2.2 = (rowA cs).2.1.reverse ∧ ∀ x ∈ (rowA cs).2.1, leadsP (usedC cs) x := by
  obtain ⟨L', h1, h2, h3⟩ := rowF_ok (cs := cs) (u := usedC cs) (f := 17) (p := cs.getD 0 0) (S := []) (l := []) (L := (rowA cs).2.1) (S' := (rowA cs).2.2) (by rw [← h]; rfl)
  rw [List.nil_append] at h1
  rw [List.append_nil] at h2
  subst h1
  exact ⟨h2, h3⟩
theorem rowB_ok {cs : List Int} (h : (rowB cs).1 = true) : (rowB cs).2.2.length = (rowB cs).2.1.length + (rowA cs).2.2.length := by
  obtain ⟨L', h1, h2, h3⟩ := rowF_ok (cs := cs) (u := usedC cs) (f := 17 - (rowA cs).2.2.length) (p := cs.getD 1 0) (S := (rowA cs).2.2) (l := []) (L := (rowB cs).2.1) (S' := (rowB cs).2.2) (by rw [← h]; rfl)
  rw [List.nil_append] at h1
  subst h1
  rw [h2]
  simp

end Go.Proofs.Ytihlbhlagpmbjaa
