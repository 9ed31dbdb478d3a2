/-
  No cell of these rows narrows 'for every input' (looked for: loops, veiled, ifaces, maps, wideKeys, modest, calm, conditions, laid).
  DERIVED. THE GIVEN ROWS OF THIS SEAT. 8 by the template 'for every input the law returns true; each argument reads behind the call as it read before'; 0 by the template 'total and deterministic' (their statements: YtojenaghbfidlaaTotals.lean).
  GIVEN WITH THE SEED: the statements are not yours to turn. If you find one false, say at which input.
  Laid BY PROGRAM, IN A SANDBOX (cutbox-rows.mjs): the forced cells as the released guide's own fill.sh prints them over the translation c114417766ce2e89… (all of the seat's roots in one cut). By AI agents, Wed Nov 11 2026. No macro, syntax, notation, axiom, sorry.
-/
import Derived.Test.YtojenaghbfidlaaChecked
import GoSem.Claim
import GoSem.ClaimJoined
import GoSem.ClaimMapViews
import Derived.JoinedTies
import Derived.KernelRfl
namespace Go.Proofs.Ytojenaghbfidlaa
/- THE CELL 'sum', in the pinned program and in every row, IS THE sha256 OF THE DUMP (.gsa) THAT YtojenaghbfidlaaProg.lean LOADS. Nothing in Lean hashes anything: it is a label: what it is worth is what the hold of that sum in a sandbox is worth. -/
noncomputable def Try.pinned : Pinned := { name := "ytojenaghbfidlaa", sum := "c114417766ce2e8910df7c93e48b7de836f590d78073027dd4e444cc5b06ff2f", checked := Try.checked }
namespace Rows
def none {H : Type} : Left H := { results := [], args := [] }

/-- 'carousellaw15.CounterSizes': WHATEVER THE INPUT: true; the input reads as it did. -/
def counterSizesSpec : ChangeSpec := { name := "counterSizes", fn := fun _ => fun
  | [d] => { results := [.lit (.bool true)], args := [d] }
  | _ => none }
def counterSizesRow : OpenClaim := { program := "ytojenaghbfidlaa", sum := "c114417766ce2e8910df7c93e48b7de836f590d78073027dd4e444cc5b06ff2f", func := "carousel/carousellaw15.CounterSizes", spec := "counterSizes", apart := false }
def CounterSizesSaid : Prop := counterSizesRow.holds Try.pinned (OpenSpec.ofChange counterSizesSpec)

/-- ITS FALSE NEIGHBOUR: 'it returns false'. Refute it at one input. -/
def counterSizesWrong : ChangeSpec := { name := "counterSizes", fn := fun _ => fun
  | [d] => { results := [.lit (.bool false)], args := [d] }
  | _ => none }
def CounterSizesWrongFalsely : Prop := counterSizesRow.holds Try.pinned (OpenSpec.ofChange counterSizesWrong)

/-- 'carousellaw15.CounterShapes': WHATEVER THE INPUT: true; the input reads as it did. -/
def counterShapesSpec : ChangeSpec := { name := "counterShapes", fn := fun _ => fun
  | [d1, d2] => { results := [.lit (.bool true)], args := [d1, d2] }
  | _ => none }
def counterShapesRow : OpenClaim := { program := "ytojenaghbfidlaa", sum := "c114417766ce2e8910df7c93e48b7de836f590d78073027dd4e444cc5b06ff2f", func := "carousel/carousellaw15.CounterShapes", spec := "counterShapes", apart := false }
def CounterShapesSaid : Prop := counterShapesRow.holds Try.pinned (OpenSpec.ofChange counterShapesSpec)

/-- ITS FALSE NEIGHBOUR: 'it returns false'. Refute it at one input. -/
def counterShapesWrong : ChangeSpec := { name := "counterShapes", fn := fun _ => fun
  | [d1, d2] => { results := [.lit (.bool false)], args := [d1, d2] }
  | _ => none }
def CounterShapesWrongFalsely : Prop := counterShapesRow.holds Try.pinned (OpenSpec.ofChange counterShapesWrong)

/-- 'carousellaw15.CounterPlays': WHATEVER THE INPUT: true; the input reads as it did. -/
def counterPlaysSpec : ChangeSpec := { name := "counterPlays", fn := fun _ => fun
  | [d] => { results := [.lit (.bool true)], args := [d] }
  | _ => none }
def counterPlaysRow : OpenClaim := { program := "ytojenaghbfidlaa", sum := "c114417766ce2e8910df7c93e48b7de836f590d78073027dd4e444cc5b06ff2f", func := "carousel/carousellaw15.CounterPlays", spec := "counterPlays", apart := false }
def CounterPlaysSaid : Prop := counterPlaysRow.holds Try.pinned (OpenSpec.ofChange counterPlaysSpec)

/-- ITS FALSE NEIGHBOUR: 'it returns false'. Refute it at one input. -/
def counterPlaysWrong : ChangeSpec := { name := "counterPlays", fn := fun _ => fun
  | [d] => { results := [.lit (.bool false)], args := [d] }
  | _ => none }
def CounterPlaysWrongFalsely : Prop := counterPlaysRow.holds Try.pinned (OpenSpec.ofChange counterPlaysWrong)

/-- 'carousellaw15.CounterOwns': WHATEVER THE INPUT: true; the input reads as it did. -/
def counterOwnsSpec : ChangeSpec := { name := "counterOwns", fn := fun _ => fun
  | [d] => { results := [.lit (.bool true)], args := [d] }
  | _ => none }
def counterOwnsRow : OpenClaim := { program := "ytojenaghbfidlaa", sum := "c114417766ce2e8910df7c93e48b7de836f590d78073027dd4e444cc5b06ff2f", func := "carousel/carousellaw15.CounterOwns", spec := "counterOwns", apart := false }
def CounterOwnsSaid : Prop := counterOwnsRow.holds Try.pinned (OpenSpec.ofChange counterOwnsSpec)

/-- ITS FALSE NEIGHBOUR: 'it returns false'. Refute it at one input. -/
def counterOwnsWrong : ChangeSpec := { name := "counterOwns", fn := fun _ => fun
  | [d] => { results := [.lit (.bool false)], args := [d] }
  | _ => none }
def CounterOwnsWrongFalsely : Prop := counterOwnsRow.holds Try.pinned (OpenSpec.ofChange counterOwnsWrong)

/-- 'carousellaw15.CounterApart': WHATEVER THE INPUT: true; the input reads as it did. -/
def counterApartSpec : ChangeSpec := { name := "counterApart", fn := fun _ => fun
  | [d1, d2] => { results := [.lit (.bool true)], args := [d1, d2] }
  | _ => none }
def counterApartRow : OpenClaim := { program := "ytojenaghbfidlaa", sum := "c114417766ce2e8910df7c93e48b7de836f590d78073027dd4e444cc5b06ff2f", func := "carousel/carousellaw15.CounterApart", spec := "counterApart", apart := false }
def CounterApartSaid : Prop := counterApartRow.holds Try.pinned (OpenSpec.ofChange counterApartSpec)

/-- ITS FALSE NEIGHBOUR: 'it returns false'. Refute it at one input. -/
def counterApartWrong : ChangeSpec := { name := "counterApart", fn := fun _ => fun
  | [d1, d2] => { results := [.lit (.bool false)], args := [d1, d2] }
  | _ => none }
def CounterApartWrongFalsely : Prop := counterApartRow.holds Try.pinned (OpenSpec.ofChange counterApartWrong)

/-- 'carousellaw15.CounterNil': WHATEVER THE INPUT: true; the input reads as it did. -/
def counterNilSpec : ChangeSpec := { name := "counterNil", fn := fun _ => fun
  | [d1, d2, d3] => { results := [.lit (.bool true)], args := [d1, d2, d3] }
  | _ => none }
def counterNilRow : OpenClaim := { program := "ytojenaghbfidlaa", sum := "c114417766ce2e8910df7c93e48b7de836f590d78073027dd4e444cc5b06ff2f", func := "carousel/carousellaw15.CounterNil", spec := "counterNil", apart := false }
def CounterNilSaid : Prop := counterNilRow.holds Try.pinned (OpenSpec.ofChange counterNilSpec)

/-- ITS FALSE NEIGHBOUR: 'it returns false'. Refute it at one input. -/
def counterNilWrong : ChangeSpec := { name := "counterNil", fn := fun _ => fun
  | [d1, d2, d3] => { results := [.lit (.bool false)], args := [d1, d2, d3] }
  | _ => none }
def CounterNilWrongFalsely : Prop := counterNilRow.holds Try.pinned (OpenSpec.ofChange counterNilWrong)

/-- 'carousellaw15.CounterEnds': WHATEVER THE INPUT: true; the input reads as it did. -/
def counterEndsSpec : ChangeSpec := { name := "counterEnds", fn := fun _ => fun
  | [d] => { results := [.lit (.bool true)], args := [d] }
  | _ => none }
def counterEndsRow : OpenClaim := { program := "ytojenaghbfidlaa", sum := "c114417766ce2e8910df7c93e48b7de836f590d78073027dd4e444cc5b06ff2f", func := "carousel/carousellaw15.CounterEnds", spec := "counterEnds", apart := false }
def CounterEndsSaid : Prop := counterEndsRow.holds Try.pinned (OpenSpec.ofChange counterEndsSpec)

/-- ITS FALSE NEIGHBOUR: 'it returns false'. Refute it at one input. -/
def counterEndsWrong : ChangeSpec := { name := "counterEnds", fn := fun _ => fun
  | [d] => { results := [.lit (.bool false)], args := [d] }
  | _ => none }
def CounterEndsWrongFalsely : Prop := counterEndsRow.holds Try.pinned (OpenSpec.ofChange counterEndsWrong)

/-- 'carousellaw15.CounterMeans': WHATEVER THE INPUT: true; the input reads as it did. -/
def counterMeansSpec : ChangeSpec := { name := "counterMeans", fn := fun _ => fun
  | [d1, d2, d3] => { results := [.lit (.bool true)], args := [d1, d2, d3] }
  | _ => none }
def counterMeansRow : OpenClaim := { program := "ytojenaghbfidlaa", sum := "c114417766ce2e8910df7c93e48b7de836f590d78073027dd4e444cc5b06ff2f", func := "carousel/carousellaw15.CounterMeans", spec := "counterMeans", apart := false }
def CounterMeansSaid : Prop := counterMeansRow.holds Try.pinned (OpenSpec.ofChange counterMeansSpec)

/-- ITS FALSE NEIGHBOUR: 'it returns false'. Refute it at one input. -/
def counterMeansWrong : ChangeSpec := { name := "counterMeans", fn := fun _ => fun
  | [d1, d2, d3] => { results := [.lit (.bool false)], args := [d1, d2, d3] }
  | _ => none }
def CounterMeansWrongFalsely : Prop := counterMeansRow.holds Try.pinned (OpenSpec.ofChange counterMeansWrong)

/- THE SECOND FORM. 'bulk': how many values and letters a reading holds, each counted each time it is reached (what is shared counts as often as it is met; a slice's spare places count too). A statement '..UptoSaid' is the law's where the arguments, and the package variables that the reading takes, are together of bulk at most 1048576: NARROWER than '..Said'. Prove '..Said' where nothing that the law and all that it calls make is longer than what came in: it says more and counts as full. Else prove '..UptoSaid'. A law counts once. -/
mutual
def uptoBulk {H : Type} : DataW H → Nat
  | .lit (.string bytes) => bytes.length + 1
  | .lit _ => 1
  | .nil => 1
  | .ptr d => uptoBulk d + 1
  | .slice elems spare => uptoBulkAll elems + uptoBulkAll spare + 1
  | .agg parts => uptoBulkAll parts + 1
  | .iface _ d => uptoBulk d + 1
  | .map entries => uptoBulkEntries entries + 1
  | .held _ => 1
def uptoBulkAll {H : Type} : List (DataW H) → Nat
  | [] => 0
  | d :: r => uptoBulk d + uptoBulkAll r
def uptoBulkEntries {H : Type} : List (Lit × DataW H) → Nat
  | [] => 0
  | x :: r => uptoBulkEntry x + uptoBulkEntries r
def uptoBulkEntry {H : Type} : Lit × DataW H → Nat
  | (.string bytes, d) => bytes.length + uptoBulk d + 1
  | (_, d) => uptoBulk d + 1
 end
def uptoSmall : (H : Type) → List (DataW H) → Bool := fun _ ds => decide (uptoBulkAll ds ≤ 1048576)
def OpenSpec.upto (s : _root_.Go.ChangeSpec) : _root_.Go.OpenSpec := { _root_.Go.OpenSpec.ofChange s with cond := some uptoSmall }

/-- 'carousellaw15.CounterSizes', WHERE WHAT IT READS IS OF BULK AT MOST 1048576: true; the input reads as it did. -/
def counterSizesUptoRow : OpenClaim := { program := "ytojenaghbfidlaa", sum := "c114417766ce2e8910df7c93e48b7de836f590d78073027dd4e444cc5b06ff2f", func := "carousel/carousellaw15.CounterSizes", spec := "counterSizes", apart := false, narrowed := true }
def CounterSizesUptoSaid : Prop := counterSizesUptoRow.holds Try.pinned (OpenSpec.upto counterSizesSpec)

/-- 'carousellaw15.CounterShapes', WHERE WHAT IT READS IS OF BULK AT MOST 1048576: true; the input reads as it did. -/
def counterShapesUptoRow : OpenClaim := { program := "ytojenaghbfidlaa", sum := "c114417766ce2e8910df7c93e48b7de836f590d78073027dd4e444cc5b06ff2f", func := "carousel/carousellaw15.CounterShapes", spec := "counterShapes", apart := false, narrowed := true }
def CounterShapesUptoSaid : Prop := counterShapesUptoRow.holds Try.pinned (OpenSpec.upto counterShapesSpec)

/-- 'carousellaw15.CounterPlays', WHERE WHAT IT READS IS OF BULK AT MOST 1048576: true; the input reads as it did. -/
def counterPlaysUptoRow : OpenClaim := { program := "ytojenaghbfidlaa", sum := "c114417766ce2e8910df7c93e48b7de836f590d78073027dd4e444cc5b06ff2f", func := "carousel/carousellaw15.CounterPlays", spec := "counterPlays", apart := false, narrowed := true }
def CounterPlaysUptoSaid : Prop := counterPlaysUptoRow.holds Try.pinned (OpenSpec.upto counterPlaysSpec)

/-- 'carousellaw15.CounterOwns', WHERE WHAT IT READS IS OF BULK AT MOST 1048576: true; the input reads as it did. -/
def counterOwnsUptoRow : OpenClaim := { program := "ytojenaghbfidlaa", sum := "c114417766ce2e8910df7c93e48b7de836f590d78073027dd4e444cc5b06ff2f", func := "carousel/carousellaw15.CounterOwns", spec := "counterOwns", apart := false, narrowed := true }
def CounterOwnsUptoSaid : Prop := counterOwnsUptoRow.holds Try.pinned (OpenSpec.upto counterOwnsSpec)

/-- 'carousellaw15.CounterApart', WHERE WHAT IT READS IS OF BULK AT MOST 1048576: true; the input reads as it did. -/
def counterApartUptoRow : OpenClaim := { program := "ytojenaghbfidlaa", sum := "c114417766ce2e8910df7c93e48b7de836f590d78073027dd4e444cc5b06ff2f", func := "carousel/carousellaw15.CounterApart", spec := "counterApart", apart := false, narrowed := true }
def CounterApartUptoSaid : Prop := counterApartUptoRow.holds Try.pinned (OpenSpec.upto counterApartSpec)

/-- 'carousellaw15.CounterNil', WHERE WHAT IT READS IS OF BULK AT MOST 1048576: true; the input reads as it did. -/
def counterNilUptoRow : OpenClaim := { program := "ytojenaghbfidlaa", sum := "c114417766ce2e8910df7c93e48b7de836f590d78073027dd4e444cc5b06ff2f", func := "carousel/carousellaw15.CounterNil", spec := "counterNil", apart := false, narrowed := true }
def CounterNilUptoSaid : Prop := counterNilUptoRow.holds Try.pinned (OpenSpec.upto counterNilSpec)

/-- 'carousellaw15.CounterEnds', WHERE WHAT IT READS IS OF BULK AT MOST 1048576: true; the input reads as it did. -/
def counterEndsUptoRow : OpenClaim := { program := "ytojenaghbfidlaa", sum := "c114417766ce2e8910df7c93e48b7de836f590d78073027dd4e444cc5b06ff2f", func := "carousel/carousellaw15.CounterEnds", spec := "counterEnds", apart := false, narrowed := true }
def CounterEndsUptoSaid : Prop := counterEndsUptoRow.holds Try.pinned (OpenSpec.upto counterEndsSpec)

/-- 'carousellaw15.CounterMeans', WHERE WHAT IT READS IS OF BULK AT MOST 1048576: true; the input reads as it did. -/
def counterMeansUptoRow : OpenClaim := { program := "ytojenaghbfidlaa", sum := "c114417766ce2e8910df7c93e48b7de836f590d78073027dd4e444cc5b06ff2f", func := "carousel/carousellaw15.CounterMeans", spec := "counterMeans", apart := false, narrowed := true }
def CounterMeansUptoSaid : Prop := counterMeansUptoRow.holds Try.pinned (OpenSpec.upto counterMeansSpec)

end Rows
end Go.Proofs.Ytojenaghbfidlaa
