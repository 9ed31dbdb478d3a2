/-
  NARROWER THAN 'FOR EVERY INPUT', by the rows' own cells (each row's printed sentence says how): TopCoarse: laid · TopWhy: laid · TopTells: laid.
  DERIVED. THE GIVEN ROWS OF THIS SEAT. 3 by the template 'for every input the law returns true; each argument reads behind the call as it read before'; 0 by the template 'total and deterministic' (their statements: YtgfogfciobmmpaaGreatDoorTotals.lean).
  GIVEN WITH THE SEED: the statements are not yours to turn. If you find one false, say at which input.
  Laid BY PROGRAM, IN A SANDBOX (cutbox-rows.mjs): the forced cells as the released guide's own fill.sh prints them over the translation c0e7974fdd011381… (all of the seat's roots in one cut). By AI agents, Wed Nov 11 2026. No macro, syntax, notation, axiom, sorry.
-/
import Derived.Test.YtgfogfciobmmpaaGreatDoorChecked
import GoSem.Claim
import GoSem.ClaimJoined
import GoSem.ClaimMapViews
import Derived.JoinedTies
import Derived.KernelRfl
namespace Go.Proofs.YtgfogfciobmmpaaGreatDoor
/- THE CELL 'sum', in the pinned program and in every row, IS THE sha256 OF THE DUMP (.gsa) THAT YtgfogfciobmmpaaGreatDoorProg.lean LOADS. Nothing in Lean hashes anything: it is a label: what it is worth is what the hold of that sum in a sandbox is worth. -/
noncomputable def Tryz.pinned : Pinned := { name := "ytgfogfciobmmpaagreatdoor", sum := "c0e7974fdd01138190ab0f4ce8382d8cb806b8c3d0a84ef93b1839548918d88b", checked := Tryz.checked }
namespace Rows
def none {H : Type} : Left H := { results := [], args := [] }

/- WHAT THE LISTED PACKAGE-LEVEL VARIABLES READ AS WHEN THE CALL BEGINS. Each datum BY PROGRAM (the guide's laid-datum.mjs) off the statement by which the dump's own 'gosem.cut.vars' lays the variable. In a bare row this is a premise. The card (YtgfogfciobmmpaaGreatDoorCards.lean) ties it to the program's text. -/
def laid_carousel_code_shapes {H : Type} : DataW H := .agg [.lit (.int .u8 0), .lit (.int .u8 1), .lit (.int .u8 2), .lit (.int .u8 3), .lit (.int .u8 0), .lit (.int .u8 0), .lit (.int .u8 0), .lit (.int .u8 0), .lit (.int .u8 0), .lit (.int .u8 0), .lit (.int .u8 0), .lit (.int .u8 0), .lit (.int .u8 0), .lit (.int .u8 0), .lit (.int .u8 0), .lit (.int .u8 0), .lit (.int .u8 0), .lit (.int .u8 0), .lit (.int .u8 0), .lit (.int .u8 0), .lit (.int .u8 0), .lit (.int .u8 0), .lit (.int .u8 0), .lit (.int .u8 4), .lit (.int .u8 2), .lit (.int .u8 2), .lit (.int .u8 6), .lit (.int .u8 0), .lit (.int .u8 5), .lit (.int .u8 0), .lit (.int .u8 0), .lit (.int .u8 0), .lit (.int .u8 0), .lit (.int .u8 5), .lit (.int .u8 5), .lit (.int .u8 5), .lit (.int .u8 5), .lit (.int .u8 5), .lit (.int .u8 5), .lit (.int .u8 5), .lit (.int .u8 5)]

/-- 'carouseltop.TopCoarse': WHATEVER THE INPUT: true; the input reads as it did. -/
def topCoarseSpec : ChangeSpec := { name := "topCoarse", fn := fun _ => fun
  | [d1, d2] => { results := [.lit (.bool true)], args := [d1, d2] }
  | _ => none }
def topCoarseRow : OpenClaim := { program := "ytgfogfciobmmpaagreatdoor", sum := "c0e7974fdd01138190ab0f4ce8382d8cb806b8c3d0a84ef93b1839548918d88b", func := "carousel/carouseltop.TopCoarse", spec := "topCoarse", unfollowed := true, recurses := true, named := ["carousel/code.shapes"], apart := false, laid := [("carousel/code.shapes", laid_carousel_code_shapes)] }
def TopCoarseSaid : Prop := topCoarseRow.holds Tryz.pinned (OpenSpec.ofChange topCoarseSpec)

/-- ITS FALSE NEIGHBOUR: 'it returns false'. Refute it at one input. -/
def topCoarseWrong : ChangeSpec := { name := "topCoarse", fn := fun _ => fun
  | [d1, d2] => { results := [.lit (.bool false)], args := [d1, d2] }
  | _ => none }
def TopCoarseWrongFalsely : Prop := topCoarseRow.holds Tryz.pinned (OpenSpec.ofChange topCoarseWrong)

/-- 'carouseltop.TopWhy': WHATEVER THE INPUT: true; the input reads as it did. -/
def topWhySpec : ChangeSpec := { name := "topWhy", fn := fun _ => fun
  | [d1, d2] => { results := [.lit (.bool true)], args := [d1, d2] }
  | _ => none }
def topWhyRow : OpenClaim := { program := "ytgfogfciobmmpaagreatdoor", sum := "c0e7974fdd01138190ab0f4ce8382d8cb806b8c3d0a84ef93b1839548918d88b", func := "carousel/carouseltop.TopWhy", spec := "topWhy", unfollowed := true, recurses := true, named := ["carousel/code.shapes"], apart := false, laid := [("carousel/code.shapes", laid_carousel_code_shapes)] }
def TopWhySaid : Prop := topWhyRow.holds Tryz.pinned (OpenSpec.ofChange topWhySpec)

/-- ITS FALSE NEIGHBOUR: 'it returns false'. Refute it at one input. -/
def topWhyWrong : ChangeSpec := { name := "topWhy", fn := fun _ => fun
  | [d1, d2] => { results := [.lit (.bool false)], args := [d1, d2] }
  | _ => none }
def TopWhyWrongFalsely : Prop := topWhyRow.holds Tryz.pinned (OpenSpec.ofChange topWhyWrong)

/-- 'carouseltop.TopTells': WHATEVER THE INPUT: true; the input reads as it did. -/
def topTellsSpec : ChangeSpec := { name := "topTells", fn := fun _ => fun
  | [d1, d2] => { results := [.lit (.bool true)], args := [d1, d2] }
  | _ => none }
def topTellsRow : OpenClaim := { program := "ytgfogfciobmmpaagreatdoor", sum := "c0e7974fdd01138190ab0f4ce8382d8cb806b8c3d0a84ef93b1839548918d88b", func := "carousel/carouseltop.TopTells", spec := "topTells", unfollowed := true, recurses := true, named := ["carousel/code.shapes"], apart := false, laid := [("carousel/code.shapes", laid_carousel_code_shapes)] }
def TopTellsSaid : Prop := topTellsRow.holds Tryz.pinned (OpenSpec.ofChange topTellsSpec)

/-- ITS FALSE NEIGHBOUR: 'it returns false'. Refute it at one input. -/
def topTellsWrong : ChangeSpec := { name := "topTells", fn := fun _ => fun
  | [d1, d2] => { results := [.lit (.bool false)], args := [d1, d2] }
  | _ => none }
def TopTellsWrongFalsely : Prop := topTellsRow.holds Tryz.pinned (OpenSpec.ofChange topTellsWrong)

/- THE SECOND FORM. 'bulk': how many values and letters a reading holds, each counted each time it is reached (what is shared counts as often as it is met; a slice's spare places count too). A statement '..UptoSaid' is the law's where the arguments, and the package variables that the reading takes, are together of bulk at most 1048576: NARROWER than '..Said'. Prove '..Said' where nothing that the law and all that it calls make is longer than what came in: it says more and counts as full. Else prove '..UptoSaid'. A law counts once. -/
mutual
def uptoBulk {H : Type} : DataW H → Nat
  | .lit (.string bytes) => bytes.length + 1
  | .lit _ => 1
  | .nil => 1
  | .ptr d => uptoBulk d + 1
  | .slice elems spare => uptoBulkAll elems + uptoBulkAll spare + 1
  | .agg parts => uptoBulkAll parts + 1
  | .iface _ d => uptoBulk d + 1
  | .map entries => uptoBulkEntries entries + 1
  | .held _ => 1
def uptoBulkAll {H : Type} : List (DataW H) → Nat
  | [] => 0
  | d :: r => uptoBulk d + uptoBulkAll r
def uptoBulkEntries {H : Type} : List (Lit × DataW H) → Nat
  | [] => 0
  | x :: r => uptoBulkEntry x + uptoBulkEntries r
def uptoBulkEntry {H : Type} : Lit × DataW H → Nat
  | (.string bytes, d) => bytes.length + uptoBulk d + 1
  | (_, d) => uptoBulk d + 1
 end
def uptoSmall : (H : Type) → List (DataW H) → Bool := fun _ ds => decide (uptoBulkAll ds ≤ 1048576)
def OpenSpec.upto (s : _root_.Go.ChangeSpec) : _root_.Go.OpenSpec := { _root_.Go.OpenSpec.ofChange s with cond := some uptoSmall }

/-- 'carouseltop.TopCoarse', WHERE WHAT IT READS IS OF BULK AT MOST 1048576: true; the input reads as it did. -/
def topCoarseUptoRow : OpenClaim := { program := "ytgfogfciobmmpaagreatdoor", sum := "c0e7974fdd01138190ab0f4ce8382d8cb806b8c3d0a84ef93b1839548918d88b", func := "carousel/carouseltop.TopCoarse", spec := "topCoarse", unfollowed := true, recurses := true, named := ["carousel/code.shapes"], apart := false, laid := [("carousel/code.shapes", laid_carousel_code_shapes)], narrowed := true }
def TopCoarseUptoSaid : Prop := topCoarseUptoRow.holds Tryz.pinned (OpenSpec.upto topCoarseSpec)

/-- 'carouseltop.TopWhy', WHERE WHAT IT READS IS OF BULK AT MOST 1048576: true; the input reads as it did. -/
def topWhyUptoRow : OpenClaim := { program := "ytgfogfciobmmpaagreatdoor", sum := "c0e7974fdd01138190ab0f4ce8382d8cb806b8c3d0a84ef93b1839548918d88b", func := "carousel/carouseltop.TopWhy", spec := "topWhy", unfollowed := true, recurses := true, named := ["carousel/code.shapes"], apart := false, laid := [("carousel/code.shapes", laid_carousel_code_shapes)], narrowed := true }
def TopWhyUptoSaid : Prop := topWhyUptoRow.holds Tryz.pinned (OpenSpec.upto topWhySpec)

/-- 'carouseltop.TopTells', WHERE WHAT IT READS IS OF BULK AT MOST 1048576: true; the input reads as it did. -/
def topTellsUptoRow : OpenClaim := { program := "ytgfogfciobmmpaagreatdoor", sum := "c0e7974fdd01138190ab0f4ce8382d8cb806b8c3d0a84ef93b1839548918d88b", func := "carousel/carouseltop.TopTells", spec := "topTells", unfollowed := true, recurses := true, named := ["carousel/code.shapes"], apart := false, laid := [("carousel/code.shapes", laid_carousel_code_shapes)], narrowed := true }
def TopTellsUptoSaid : Prop := topTellsUptoRow.holds Tryz.pinned (OpenSpec.upto topTellsSpec)

end Rows
end Go.Proofs.YtgfogfciobmmpaaGreatDoor
