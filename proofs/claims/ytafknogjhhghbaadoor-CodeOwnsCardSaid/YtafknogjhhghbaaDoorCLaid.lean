/- The table of shapes, out of the rows' condition; how the laws' arguments are opened. -/
import Derived.Test.YtafknogjhhghbaaDoorRows
import Derived.Test.YtafknogjhhghbaaDoorCFrame
import Derived.ProofKit
import Derived.LaidMore
import Derived.OpenShut
import Derived.SizedLaws
namespace Go.Proofs.YtafknogjhhghbaaDoor
open Go.ChangeShapes Go.WideShapes Go.ChangeAt Go.RowKit

theorem own : ownKnob Tryd.prog.godebug = none := by kernel_rfl
theorem laidOut : laidOutB Tryd.prog = true := by kernel_rfl
theorem gShapes : Tryd.prog.globalNamed "carousel/code.shapes" = some 0 := by kernel_rfl
theorem tShapes : (Tryd.prog.globals[0]?).map (·.type) = some 41 := by kernel_rfl
def laidL : List (String × DataW Unit) := [("carousel/code.shapes", Rows.laid_carousel_code_shapes)]

/-- The door's own heap meets the condition. -/
theorem door_met (os : Os) (args : Array Value) : laidMetH Tryd.prog laidL ((World.doorLaid Tryd.prog 400 os).forCall (fun _ _ => 0) ⟨#[], args, []⟩).memory :=
  laidMetH_of_parts3 (fuel := 8) (laidMet_of_run' 8 (by kernel_rfl) (by kernel_rfl)) (by kernel_rfl) (by kernel_rfl)

theorem laid_list : (Rows.laid_carousel_code_shapes : DataW Unit) = .agg (shapeT.map fun (n : Nat) => .lit (.int .u8 (n : Int))) := rfl

/-- What the condition gives the walks. -/
theorem tabled_of_laid {W : World} (h : laidMetH Tryd.prog laidL W) : Tabled W := by
  rw [MakeChecks.laidMetH_plain _ _ _ (by kernel_rfl)] at h
  obtain ⟨ps, ⟨g0, t0, cs0, f0, p0, q0, hg0, ht0, hv0, hd0, _⟩, _⟩ := h
  obtain rfl := Option.some.inj (gShapes.symm.trans hg0)
  obtain rfl := Option.some.inj (tShapes.symm.trans ht0)
  obtain ⟨xs, m1, rfl, hx1, hlen, hn, hel⟩ := DataW.trod_array Tryd.underlying41 hd0
  have c1 : Tryd.prog.cellsOf 5 = 1 := by kernel_rfl
  have hcell : ∀ i, i < 41 → W.cell? ⟨0, i, none⟩ = some (.int .u8 (shapeN i : Int)) := by
    intro i hi
    have h1 := hel i hi
    rw [c1] at h1
    have hxi : xs[i]? = some (xs[i]'(by omega)) := List.getElem?_eq_getElem (by omega)
    rw [hxi] at h1
    obtain ⟨k, e1, e2, _⟩ := DataW.trod_int Tryd.underlying5 h1
    have hcs := World.var?_cell hg0 hv0 i
    have hd : (xs.map (·.1))[i]? = (shapeT.map fun (n : Nat) => (DataW.lit (.int .u8 (n : Int)) : DataW Unit))[i]? := by
      rw [laid_list] at hx1
      simp only [Prod.mk.injEq, DataW.agg.injEq] at hx1
      rw [hx1.1]
    rw [List.getElem?_map, List.getElem?_map, hxi, e2] at hd
    have hsh : shapeT[i]? = some (shapeN i) := by
      have : i < shapeT.length := by simpa [shapeT] using hi
      rw [List.getElem?_eq_getElem this]
      simp [shapeN, List.getD_eq_getElem?_getD, this]
    rw [hsh] at hd
    have hk : k = (shapeN i : Int) := by simpa using hd
    subst hk
    rw [hcs]
    have e3 : (cs0.toList.drop (i * 1)).take 1 = [Value.int .u8 (shapeN i : Int)] := e1
    rw [Nat.mul_one] at e3
    have e4 : cs0.toList[i]? = some (Value.int .u8 (shapeN i : Int)) := by
      have := congrArg (fun l => l[0]?) e3
      simpa using this
    simpa using e4
  exact ⟨by have := World.block_lt_of_cell? W _ (hcell 0 (by omega)); simpa using this, hcell⟩

end Go.Proofs.YtafknogjhhghbaaDoor
