/- What a call of a chain means, as data. -/
import Derived.Test.YtihlbhlagpmbjaaNums
namespace Go.Proofs.Ytihlbhlagpmbjaa
open Go.RowKit

/-- How many keys stand ahead of one. -/
def idxS (x : Int) : List Int → Nat
  | [] => 0
  | a :: l => if a < x then idxS x l + 1 else 0
def thereS (x : Int) (K : List Int) : Bool := decide (idxS x K < K.length ∧ K.getD (idxS x K) 0 = x)
/-- The key at a place, if there is one. -/
def ansS (K : List Int) (i : Nat) : List Int × Int × Int := if i = K.length then (K, 0, 1) else (K, K.getD i 0, 0)
def overS (x : Int) (K : List Int) : Nat := if thereS x K = true then idxS x K + 1 else idxS x K
/-- What a call means: the keys behind it, its answer, its code. -/
def meansS (K : List Int) (n : Int) (call x : Int) : List Int × Int × Int :=
  if call = 5 then (K, K.length, 0)
  else if call = 6 then (K, if thereS x K = true then 1 else 0, 0)
  else if call = 1 then (if thereS x K = true then (K, 0, 3) else if n ≤ K.length then (K, 0, 2) else (K.take (idxS x K) ++ x :: K.drop (idxS x K), 0, 0))
  else if call = 4 then (if thereS x K = true then (K.take (idxS x K) ++ K.drop (idxS x K + 1), 0, 0) else (K, 0, 1))
  else if call = 7 then ansS K 0
  else ansS K (overS x K)
theorem means_8 (K : List Int) (n x : Int) : meansS K n 8 x = ansS K (overS x K) := rfl
theorem means_7 (K : List Int) (n x : Int) : meansS K n 7 x = ansS K 0 := rfl
theorem ans_one (K : List Int) (i : Nat) : (ansS K i).1 = K := by unfold ansS; split <;> rfl

theorem idx_le (x : Int) : ∀ K : List Int, idxS x K ≤ K.length
  | [] => Nat.le_refl _
  | a :: l => by
    have := idx_le x l
    unfold idxS
    split <;> simp <;> omega
theorem idx_lt (x : Int) : ∀ (K : List Int) (i : Nat), i < idxS x K → K.getD i 0 < x
  | [], i, h => by simp [idxS] at h
  | a :: l, i, h => by
    unfold idxS at h
    split at h
    · cases i with
      | zero => simpa
      | succ i => simpa using idx_lt x l i (by omega)
    · omega
theorem idx_at (x : Int) : ∀ (K : List Int), idxS x K < K.length → x ≤ K.getD (idxS x K) 0
  | [], h => by simp at h
  | a :: l, h => by
    unfold idxS at h ⊢
    split
    · rename_i hc
      rw [if_pos hc] at h
      simpa using idx_at x l (by simpa using h)
    · simp
      omega
/-- How a key stands in a row. -/
theorem idx_cases (x : Int) (K : List Int) : (idxS x K < K.length ∧ K.getD (idxS x K) 0 = x ∧ thereS x K = true) ∨ (idxS x K < K.length ∧ x < K.getD (idxS x K) 0 ∧ thereS x K = false) ∨ (idxS x K = K.length ∧ thereS x K = false) := by
  have h1 := idx_le x K
  have h2 := idx_at x K
  unfold thereS
  by_cases h : idxS x K < K.length
  · have h2 := h2 h
    by_cases e : K.getD (idxS x K) 0 = x
    · exact .inl ⟨h, e, decide_eq_true ⟨h, e⟩⟩
    · exact .inr (.inl ⟨h, by omega, decide_eq_false fun hh => e hh.2⟩)
  · exact .inr (.inr ⟨by omega, decide_eq_false fun hh => h hh.1⟩)

end Go.Proofs.Ytihlbhlagpmbjaa
