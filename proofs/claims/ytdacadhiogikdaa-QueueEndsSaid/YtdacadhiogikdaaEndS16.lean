/- The queue's machine is through behind at most five wants, and wants no cell but its own: plain reckoning. -/
import Derived.Test.YtdacadhiogikdaaSim16
import Derived.Test.YtdacadhiogikdaaSizes
namespace Go.Proofs.Ytdacadhiogikdaa
open Go.RowKit

def stepsOf (read : List Int) (writes : Int) (last : WantS) : Int := read.length + writes + (if last.kind = 0 then 0 else 1)
def endBound (_most : Int) : Int := 5

theorem sim_ends {base most call : Int} {xs : List Int} {st : MS} {read : List Int} {writes : Int} {last : WantS} (h : Sim base most call xs st read writes last) :
    (last.kind = 6 → last.cell = 0 ∧ (last.code = 0 ∨ last.value = 0)) ∧ (last.kind = 2 ∨ last.kind = 3 → base ≤ last.cell ∧ last.cell < base + sizeI most) ∧ (last.kind ≠ 6 → stepsOf read writes last ≤ endBound most) := by
  obtain ⟨⟨hb0, hb1, hm0, hm1, -⟩, h⟩ := h
  rw [sizeI_in hm0 hm1]
  generalize xs.getD 0 0 = i at *
  cases h with
  | z _ _ _ e k h1 h2 h3 h4 h5 h6 =>
    refine ⟨fun _ => ⟨rfl, ?_⟩, fun h => ?_, fun h => absurd rfl h⟩
    · by_cases hk : k = 0
      · exact .inl hk
      · exact .inr (if_neg hk)
    · rcases h with h | h <;> simp [endS] at h
  | a => simp [stepsOf, endBound, w0]
  | b => simp [stepsOf, endBound, readS]; omega
  | c f hf => simp [stepsOf, endBound, readS]; omega
  | p1 f l hf hl h3 hlt =>
    have hu := u64_bounds l
    have hb := behind_bounds f (u64 l) most (by omega)
    simp [stepsOf, endBound, putS]; omega
  | p2 f l hf hl => simp [stepsOf, endBound, putS]; omega
  | g1 f l hf hl h2 hl0 hm =>
    have hb := behind_bounds f 0 most (by omega)
    simp [stepsOf, endBound, readS]; omega
  | g2 f l v hf hl hv => simp [stepsOf, endBound, putS]; omega
  | g3 f l v hf hl hv => simp [stepsOf, endBound, putS]; omega

end Go.Proofs.Ytdacadhiogikdaa
