/- The counter's machine is through behind at most two wants, and wants no cell but its own: plain reckoning. -/
import Derived.Test.YtojenaghbfidlaaSim15
import Derived.Test.YtojenaghbfidlaaSizes
namespace Go.Proofs.Ytojenaghbfidlaa
open Go.RowKit

def stepsOf (read : List Int) (writes : Int) (last : WantS) : Int := read.length + writes + (if last.kind = 0 then 0 else 1)
def endBound (_most : Int) : Int := 2

theorem sim_ends {base most call : Int} {xs : List Int} {st : MS} {read : List Int} {writes : Int} {last : WantS} (h : Sim base most call xs st read writes last) :
    (last.kind = 6 → last.cell = 0 ∧ (last.code = 0 ∨ last.value = 0)) ∧ (last.kind = 2 ∨ last.kind = 3 → base ≤ last.cell ∧ last.cell < base + sizeI most) ∧ (last.kind ≠ 6 → stepsOf read writes last ≤ endBound most) := by
  obtain ⟨⟨hb0, hb1, hm0, hm1, -⟩, h⟩ := h
  rw [sizeI_in hm0 hm1]
  generalize xs.getD 0 0 = i at *
  generalize xs.getD 1 0 = d at *
  rcases h with ⟨-, -, rfl, rfl, rfl | rfl⟩ | ⟨hi, ⟨-, rfl, rfl, rfl⟩ | ⟨-, rfl, rfl, rfl⟩ | ⟨r, hr, rfl, ⟨-, -, rfl, rfl⟩ | ⟨-, -, ⟨rfl, rfl⟩ | ⟨rfl, rfl⟩⟩⟩⟩
  all_goals simp [stepsOf, endBound, w0, endS, readS, putS]
  all_goals omega

end Go.Proofs.Ytojenaghbfidlaa
