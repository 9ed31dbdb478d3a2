/-
  No cell of these rows narrows 'for every input' (looked for: loops, veiled, ifaces, maps, wideKeys, modest, calm, conditions, laid).
  DERIVED. THE GIVEN ROWS OF THIS SEAT. 9 by the template 'for every input the law returns true; each argument reads behind the call as it read before'; 0 by the template 'total and deterministic' (their statements: YtihlbhlagpmbjaaTotals.lean).
  GIVEN WITH THE SEED: the statements are not yours to turn. If you find one false, say at which input.
  Laid BY PROGRAM, IN A SANDBOX (cutbox-rows.mjs): the forced cells as the released guide's own fill.sh prints them over the translation 34d70cb8bb92a061… (all of the seat's roots in one cut). By AI agents, Wed Nov 11 2026. No macro, syntax, notation, axiom, sorry.
-/
import Derived.Test.YtihlbhlagpmbjaaChecked
import GoSem.Claim
import GoSem.ClaimJoined
import GoSem.ClaimMapViews
import Derived.JoinedTies
import Derived.KernelRfl
namespace Go.Proofs.Ytihlbhlagpmbjaa
/- THE CELL 'sum', in the pinned program and in every row, IS THE sha256 OF THE DUMP (.gsa) THAT YtihlbhlagpmbjaaProg.lean LOADS. Nothing in Lean hashes anything: it is a label: what it is worth is what the hold of that sum in a sandbox is worth. -/
noncomputable def Try.pinned : Pinned := { name := "ytihlbhlagpmbjaa", sum := "34d70cb8bb92a06190510e3837976a06bb44237da080b5099f43b0254faa681f", checked := Try.checked }
namespace Rows
def none {H : Type} : Left H := { results := [], args := [] }

/-- 'carousellaw18.ChainSizes': WHATEVER THE INPUT: true; the input reads as it did. -/
def chainSizesSpec : ChangeSpec := { name := "chainSizes", fn := fun _ => fun
  | [d] => { results := [.lit (.bool true)], args := [d] }
  | _ => none }
def chainSizesRow : OpenClaim := { program := "ytihlbhlagpmbjaa", sum := "34d70cb8bb92a06190510e3837976a06bb44237da080b5099f43b0254faa681f", func := "carousel/carousellaw18.ChainSizes", spec := "chainSizes", apart := false }
def ChainSizesSaid : Prop := chainSizesRow.holds Try.pinned (OpenSpec.ofChange chainSizesSpec)

/-- ITS FALSE NEIGHBOUR: 'it returns false'. Refute it at one input. -/
def chainSizesWrong : ChangeSpec := { name := "chainSizes", fn := fun _ => fun
  | [d] => { results := [.lit (.bool false)], args := [d] }
  | _ => none }
def ChainSizesWrongFalsely : Prop := chainSizesRow.holds Try.pinned (OpenSpec.ofChange chainSizesWrong)

/-- 'carousellaw18.ChainShapes': WHATEVER THE INPUT: true; the input reads as it did. -/
def chainShapesSpec : ChangeSpec := { name := "chainShapes", fn := fun _ => fun
  | [d1, d2] => { results := [.lit (.bool true)], args := [d1, d2] }
  | _ => none }
def chainShapesRow : OpenClaim := { program := "ytihlbhlagpmbjaa", sum := "34d70cb8bb92a06190510e3837976a06bb44237da080b5099f43b0254faa681f", func := "carousel/carousellaw18.ChainShapes", spec := "chainShapes", apart := false }
def ChainShapesSaid : Prop := chainShapesRow.holds Try.pinned (OpenSpec.ofChange chainShapesSpec)

/-- ITS FALSE NEIGHBOUR: 'it returns false'. Refute it at one input. -/
def chainShapesWrong : ChangeSpec := { name := "chainShapes", fn := fun _ => fun
  | [d1, d2] => { results := [.lit (.bool false)], args := [d1, d2] }
  | _ => none }
def ChainShapesWrongFalsely : Prop := chainShapesRow.holds Try.pinned (OpenSpec.ofChange chainShapesWrong)

/-- 'carousellaw18.ChainPlays': WHATEVER THE INPUT: true; the input reads as it did. -/
def chainPlaysSpec : ChangeSpec := { name := "chainPlays", fn := fun _ => fun
  | [d] => { results := [.lit (.bool true)], args := [d] }
  | _ => none }
def chainPlaysRow : OpenClaim := { program := "ytihlbhlagpmbjaa", sum := "34d70cb8bb92a06190510e3837976a06bb44237da080b5099f43b0254faa681f", func := "carousel/carousellaw18.ChainPlays", spec := "chainPlays", unfollowed := true, recurses := true, apart := false }
def ChainPlaysSaid : Prop := chainPlaysRow.holds Try.pinned (OpenSpec.ofChange chainPlaysSpec)

/-- ITS FALSE NEIGHBOUR: 'it returns false'. Refute it at one input. -/
def chainPlaysWrong : ChangeSpec := { name := "chainPlays", fn := fun _ => fun
  | [d] => { results := [.lit (.bool false)], args := [d] }
  | _ => none }
def ChainPlaysWrongFalsely : Prop := chainPlaysRow.holds Try.pinned (OpenSpec.ofChange chainPlaysWrong)

/-- 'carousellaw18.ChainOwns': WHATEVER THE INPUT: true; the input reads as it did. -/
def chainOwnsSpec : ChangeSpec := { name := "chainOwns", fn := fun _ => fun
  | [d] => { results := [.lit (.bool true)], args := [d] }
  | _ => none }
def chainOwnsRow : OpenClaim := { program := "ytihlbhlagpmbjaa", sum := "34d70cb8bb92a06190510e3837976a06bb44237da080b5099f43b0254faa681f", func := "carousel/carousellaw18.ChainOwns", spec := "chainOwns", unfollowed := true, recurses := true, apart := false }
def ChainOwnsSaid : Prop := chainOwnsRow.holds Try.pinned (OpenSpec.ofChange chainOwnsSpec)

/-- ITS FALSE NEIGHBOUR: 'it returns false'. Refute it at one input. -/
def chainOwnsWrong : ChangeSpec := { name := "chainOwns", fn := fun _ => fun
  | [d] => { results := [.lit (.bool false)], args := [d] }
  | _ => none }
def ChainOwnsWrongFalsely : Prop := chainOwnsRow.holds Try.pinned (OpenSpec.ofChange chainOwnsWrong)

/-- 'carousellaw18.ChainApart': WHATEVER THE INPUT: true; the input reads as it did. -/
def chainApartSpec : ChangeSpec := { name := "chainApart", fn := fun _ => fun
  | [d1, d2] => { results := [.lit (.bool true)], args := [d1, d2] }
  | _ => none }
def chainApartRow : OpenClaim := { program := "ytihlbhlagpmbjaa", sum := "34d70cb8bb92a06190510e3837976a06bb44237da080b5099f43b0254faa681f", func := "carousel/carousellaw18.ChainApart", spec := "chainApart", unfollowed := true, recurses := true, apart := false }
def ChainApartSaid : Prop := chainApartRow.holds Try.pinned (OpenSpec.ofChange chainApartSpec)

/-- ITS FALSE NEIGHBOUR: 'it returns false'. Refute it at one input. -/
def chainApartWrong : ChangeSpec := { name := "chainApart", fn := fun _ => fun
  | [d1, d2] => { results := [.lit (.bool false)], args := [d1, d2] }
  | _ => none }
def ChainApartWrongFalsely : Prop := chainApartRow.holds Try.pinned (OpenSpec.ofChange chainApartWrong)

/-- 'carousellaw18.ChainNil': WHATEVER THE INPUT: true; the input reads as it did. -/
def chainNilSpec : ChangeSpec := { name := "chainNil", fn := fun _ => fun
  | [d1, d2, d3] => { results := [.lit (.bool true)], args := [d1, d2, d3] }
  | _ => none }
def chainNilRow : OpenClaim := { program := "ytihlbhlagpmbjaa", sum := "34d70cb8bb92a06190510e3837976a06bb44237da080b5099f43b0254faa681f", func := "carousel/carousellaw18.ChainNil", spec := "chainNil", unfollowed := true, recurses := true, apart := false }
def ChainNilSaid : Prop := chainNilRow.holds Try.pinned (OpenSpec.ofChange chainNilSpec)

/-- ITS FALSE NEIGHBOUR: 'it returns false'. Refute it at one input. -/
def chainNilWrong : ChangeSpec := { name := "chainNil", fn := fun _ => fun
  | [d1, d2, d3] => { results := [.lit (.bool false)], args := [d1, d2, d3] }
  | _ => none }
def ChainNilWrongFalsely : Prop := chainNilRow.holds Try.pinned (OpenSpec.ofChange chainNilWrong)

/-- 'carousellaw18.ChainWalks': WHATEVER THE INPUT: true; the input reads as it did. -/
def chainWalksSpec : ChangeSpec := { name := "chainWalks", fn := fun _ => fun
  | [d1, d2] => { results := [.lit (.bool true)], args := [d1, d2] }
  | _ => none }
def chainWalksRow : OpenClaim := { program := "ytihlbhlagpmbjaa", sum := "34d70cb8bb92a06190510e3837976a06bb44237da080b5099f43b0254faa681f", func := "carousel/carousellaw18.ChainWalks", spec := "chainWalks", unfollowed := true, recurses := true, apart := false }
def ChainWalksSaid : Prop := chainWalksRow.holds Try.pinned (OpenSpec.ofChange chainWalksSpec)

/-- ITS FALSE NEIGHBOUR: 'it returns false'. Refute it at one input. -/
def chainWalksWrong : ChangeSpec := { name := "chainWalks", fn := fun _ => fun
  | [d1, d2] => { results := [.lit (.bool false)], args := [d1, d2] }
  | _ => none }
def ChainWalksWrongFalsely : Prop := chainWalksRow.holds Try.pinned (OpenSpec.ofChange chainWalksWrong)

/-- 'carousellaw18.ChainEnds': WHATEVER THE INPUT: true; the input reads as it did. -/
def chainEndsSpec : ChangeSpec := { name := "chainEnds", fn := fun _ => fun
  | [d] => { results := [.lit (.bool true)], args := [d] }
  | _ => none }
def chainEndsRow : OpenClaim := { program := "ytihlbhlagpmbjaa", sum := "34d70cb8bb92a06190510e3837976a06bb44237da080b5099f43b0254faa681f", func := "carousel/carousellaw18.ChainEnds", spec := "chainEnds", unfollowed := true, recurses := true, apart := false }
def ChainEndsSaid : Prop := chainEndsRow.holds Try.pinned (OpenSpec.ofChange chainEndsSpec)

/-- ITS FALSE NEIGHBOUR: 'it returns false'. Refute it at one input. -/
def chainEndsWrong : ChangeSpec := { name := "chainEnds", fn := fun _ => fun
  | [d] => { results := [.lit (.bool false)], args := [d] }
  | _ => none }
def ChainEndsWrongFalsely : Prop := chainEndsRow.holds Try.pinned (OpenSpec.ofChange chainEndsWrong)

/-- 'carousellaw18.ChainMeans': WHATEVER THE INPUT: true; the input reads as it did. -/
def chainMeansSpec : ChangeSpec := { name := "chainMeans", fn := fun _ => fun
  | [d1, d2, d3] => { results := [.lit (.bool true)], args := [d1, d2, d3] }
  | _ => none }
def chainMeansRow : OpenClaim := { program := "ytihlbhlagpmbjaa", sum := "34d70cb8bb92a06190510e3837976a06bb44237da080b5099f43b0254faa681f", func := "carousel/carousellaw18.ChainMeans", spec := "chainMeans", unfollowed := true, recurses := true, apart := false }
def ChainMeansSaid : Prop := chainMeansRow.holds Try.pinned (OpenSpec.ofChange chainMeansSpec)

/-- ITS FALSE NEIGHBOUR: 'it returns false'. Refute it at one input. -/
def chainMeansWrong : ChangeSpec := { name := "chainMeans", fn := fun _ => fun
  | [d1, d2, d3] => { results := [.lit (.bool false)], args := [d1, d2, d3] }
  | _ => none }
def ChainMeansWrongFalsely : Prop := chainMeansRow.holds Try.pinned (OpenSpec.ofChange chainMeansWrong)

/- THE SECOND FORM. 'bulk': how many values and letters a reading holds, each counted each time it is reached (what is shared counts as often as it is met; a slice's spare places count too). A statement '..UptoSaid' is the law's where the arguments, and the package variables that the reading takes, are together of bulk at most 1048576: NARROWER than '..Said'. Prove '..Said' where nothing that the law and all that it calls make is longer than what came in: it says more and counts as full. Else prove '..UptoSaid'. A law counts once. -/
mutual
def uptoBulk {H : Type} : DataW H → Nat
  | .lit (.string bytes) => bytes.length + 1
  | .lit _ => 1
  | .nil => 1
  | .ptr d => uptoBulk d + 1
  | .slice elems spare => uptoBulkAll elems + uptoBulkAll spare + 1
  | .agg parts => uptoBulkAll parts + 1
  | .iface _ d => uptoBulk d + 1
  | .map entries => uptoBulkEntries entries + 1
  | .held _ => 1
def uptoBulkAll {H : Type} : List (DataW H) → Nat
  | [] => 0
  | d :: r => uptoBulk d + uptoBulkAll r
def uptoBulkEntries {H : Type} : List (Lit × DataW H) → Nat
  | [] => 0
  | x :: r => uptoBulkEntry x + uptoBulkEntries r
def uptoBulkEntry {H : Type} : Lit × DataW H → Nat
  | (.string bytes, d) => bytes.length + uptoBulk d + 1
  | (_, d) => uptoBulk d + 1
 end
def uptoSmall : (H : Type) → List (DataW H) → Bool := fun _ ds => decide (uptoBulkAll ds ≤ 1048576)
def OpenSpec.upto (s : _root_.Go.ChangeSpec) : _root_.Go.OpenSpec := { _root_.Go.OpenSpec.ofChange s with cond := some uptoSmall }

/-- 'carousellaw18.ChainSizes', WHERE WHAT IT READS IS OF BULK AT MOST 1048576: true; the input reads as it did. -/
def chainSizesUptoRow : OpenClaim := { program := "ytihlbhlagpmbjaa", sum := "34d70cb8bb92a06190510e3837976a06bb44237da080b5099f43b0254faa681f", func := "carousel/carousellaw18.ChainSizes", spec := "chainSizes", apart := false, narrowed := true }
def ChainSizesUptoSaid : Prop := chainSizesUptoRow.holds Try.pinned (OpenSpec.upto chainSizesSpec)

/-- 'carousellaw18.ChainShapes', WHERE WHAT IT READS IS OF BULK AT MOST 1048576: true; the input reads as it did. -/
def chainShapesUptoRow : OpenClaim := { program := "ytihlbhlagpmbjaa", sum := "34d70cb8bb92a06190510e3837976a06bb44237da080b5099f43b0254faa681f", func := "carousel/carousellaw18.ChainShapes", spec := "chainShapes", apart := false, narrowed := true }
def ChainShapesUptoSaid : Prop := chainShapesUptoRow.holds Try.pinned (OpenSpec.upto chainShapesSpec)

/-- 'carousellaw18.ChainPlays', WHERE WHAT IT READS IS OF BULK AT MOST 1048576: true; the input reads as it did. -/
def chainPlaysUptoRow : OpenClaim := { program := "ytihlbhlagpmbjaa", sum := "34d70cb8bb92a06190510e3837976a06bb44237da080b5099f43b0254faa681f", func := "carousel/carousellaw18.ChainPlays", spec := "chainPlays", unfollowed := true, recurses := true, apart := false, narrowed := true }
def ChainPlaysUptoSaid : Prop := chainPlaysUptoRow.holds Try.pinned (OpenSpec.upto chainPlaysSpec)

/-- 'carousellaw18.ChainOwns', WHERE WHAT IT READS IS OF BULK AT MOST 1048576: true; the input reads as it did. -/
def chainOwnsUptoRow : OpenClaim := { program := "ytihlbhlagpmbjaa", sum := "34d70cb8bb92a06190510e3837976a06bb44237da080b5099f43b0254faa681f", func := "carousel/carousellaw18.ChainOwns", spec := "chainOwns", unfollowed := true, recurses := true, apart := false, narrowed := true }
def ChainOwnsUptoSaid : Prop := chainOwnsUptoRow.holds Try.pinned (OpenSpec.upto chainOwnsSpec)

/-- 'carousellaw18.ChainApart', WHERE WHAT IT READS IS OF BULK AT MOST 1048576: true; the input reads as it did. -/
def chainApartUptoRow : OpenClaim := { program := "ytihlbhlagpmbjaa", sum := "34d70cb8bb92a06190510e3837976a06bb44237da080b5099f43b0254faa681f", func := "carousel/carousellaw18.ChainApart", spec := "chainApart", unfollowed := true, recurses := true, apart := false, narrowed := true }
def ChainApartUptoSaid : Prop := chainApartUptoRow.holds Try.pinned (OpenSpec.upto chainApartSpec)

/-- 'carousellaw18.ChainNil', WHERE WHAT IT READS IS OF BULK AT MOST 1048576: true; the input reads as it did. -/
def chainNilUptoRow : OpenClaim := { program := "ytihlbhlagpmbjaa", sum := "34d70cb8bb92a06190510e3837976a06bb44237da080b5099f43b0254faa681f", func := "carousel/carousellaw18.ChainNil", spec := "chainNil", unfollowed := true, recurses := true, apart := false, narrowed := true }
def ChainNilUptoSaid : Prop := chainNilUptoRow.holds Try.pinned (OpenSpec.upto chainNilSpec)

/-- 'carousellaw18.ChainWalks', WHERE WHAT IT READS IS OF BULK AT MOST 1048576: true; the input reads as it did. -/
def chainWalksUptoRow : OpenClaim := { program := "ytihlbhlagpmbjaa", sum := "34d70cb8bb92a06190510e3837976a06bb44237da080b5099f43b0254faa681f", func := "carousel/carousellaw18.ChainWalks", spec := "chainWalks", unfollowed := true, recurses := true, apart := false, narrowed := true }
def ChainWalksUptoSaid : Prop := chainWalksUptoRow.holds Try.pinned (OpenSpec.upto chainWalksSpec)

/-- 'carousellaw18.ChainEnds', WHERE WHAT IT READS IS OF BULK AT MOST 1048576: true; the input reads as it did. -/
def chainEndsUptoRow : OpenClaim := { program := "ytihlbhlagpmbjaa", sum := "34d70cb8bb92a06190510e3837976a06bb44237da080b5099f43b0254faa681f", func := "carousel/carousellaw18.ChainEnds", spec := "chainEnds", unfollowed := true, recurses := true, apart := false, narrowed := true }
def ChainEndsUptoSaid : Prop := chainEndsUptoRow.holds Try.pinned (OpenSpec.upto chainEndsSpec)

/-- 'carousellaw18.ChainMeans', WHERE WHAT IT READS IS OF BULK AT MOST 1048576: true; the input reads as it did. -/
def chainMeansUptoRow : OpenClaim := { program := "ytihlbhlagpmbjaa", sum := "34d70cb8bb92a06190510e3837976a06bb44237da080b5099f43b0254faa681f", func := "carousel/carousellaw18.ChainMeans", spec := "chainMeans", unfollowed := true, recurses := true, apart := false, narrowed := true }
def ChainMeansUptoSaid : Prop := chainMeansUptoRow.holds Try.pinned (OpenSpec.upto chainMeansSpec)

end Rows
end Go.Proofs.Ytihlbhlagpmbjaa
