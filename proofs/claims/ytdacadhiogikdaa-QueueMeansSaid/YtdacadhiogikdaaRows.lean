/-
  No cell of these rows narrows 'for every input' (looked for: loops, veiled, ifaces, maps, wideKeys, modest, calm, conditions, laid).
  DERIVED. THE GIVEN ROWS OF THIS SEAT. 8 by the template 'for every input the law returns true; each argument reads behind the call as it read before'; 0 by the template 'total and deterministic' (their statements: YtdacadhiogikdaaTotals.lean).
  GIVEN WITH THE SEED: the statements are not yours to turn. If you find one false, say at which input.
  Laid BY PROGRAM, IN A SANDBOX (cutbox-rows.mjs): the forced cells as the released guide's own fill.sh prints them over the translation cb9554173b3fdd6a… (all of the seat's roots in one cut). By AI agents, Wed Nov 11 2026. No macro, syntax, notation, axiom, sorry.
-/
import Derived.Test.YtdacadhiogikdaaChecked
import GoSem.Claim
import GoSem.ClaimJoined
import GoSem.ClaimMapViews
import Derived.JoinedTies
import Derived.KernelRfl
namespace Go.Proofs.Ytdacadhiogikdaa
/- THE CELL 'sum', in the pinned program and in every row, IS THE sha256 OF THE DUMP (.gsa) THAT YtdacadhiogikdaaProg.lean LOADS. Nothing in Lean hashes anything: it is a label: what it is worth is what the hold of that sum in a sandbox is worth. -/
noncomputable def Try.pinned : Pinned := { name := "ytdacadhiogikdaa", sum := "cb9554173b3fdd6afa10a9348674a08622e402606aeb137d4151c1d6d4b550d0", checked := Try.checked }
namespace Rows
def none {H : Type} : Left H := { results := [], args := [] }

/-- 'carousellaw16.QueueSizes': WHATEVER THE INPUT: true; the input reads as it did. -/
def queueSizesSpec : ChangeSpec := { name := "queueSizes", fn := fun _ => fun
  | [d] => { results := [.lit (.bool true)], args := [d] }
  | _ => none }
def queueSizesRow : OpenClaim := { program := "ytdacadhiogikdaa", sum := "cb9554173b3fdd6afa10a9348674a08622e402606aeb137d4151c1d6d4b550d0", func := "carousel/carousellaw16.QueueSizes", spec := "queueSizes", apart := false }
def QueueSizesSaid : Prop := queueSizesRow.holds Try.pinned (OpenSpec.ofChange queueSizesSpec)

/-- ITS FALSE NEIGHBOUR: 'it returns false'. Refute it at one input. -/
def queueSizesWrong : ChangeSpec := { name := "queueSizes", fn := fun _ => fun
  | [d] => { results := [.lit (.bool false)], args := [d] }
  | _ => none }
def QueueSizesWrongFalsely : Prop := queueSizesRow.holds Try.pinned (OpenSpec.ofChange queueSizesWrong)

/-- 'carousellaw16.QueueShapes': WHATEVER THE INPUT: true; the input reads as it did. -/
def queueShapesSpec : ChangeSpec := { name := "queueShapes", fn := fun _ => fun
  | [d1, d2] => { results := [.lit (.bool true)], args := [d1, d2] }
  | _ => none }
def queueShapesRow : OpenClaim := { program := "ytdacadhiogikdaa", sum := "cb9554173b3fdd6afa10a9348674a08622e402606aeb137d4151c1d6d4b550d0", func := "carousel/carousellaw16.QueueShapes", spec := "queueShapes", apart := false }
def QueueShapesSaid : Prop := queueShapesRow.holds Try.pinned (OpenSpec.ofChange queueShapesSpec)

/-- ITS FALSE NEIGHBOUR: 'it returns false'. Refute it at one input. -/
def queueShapesWrong : ChangeSpec := { name := "queueShapes", fn := fun _ => fun
  | [d1, d2] => { results := [.lit (.bool false)], args := [d1, d2] }
  | _ => none }
def QueueShapesWrongFalsely : Prop := queueShapesRow.holds Try.pinned (OpenSpec.ofChange queueShapesWrong)

/-- 'carousellaw16.QueuePlays': WHATEVER THE INPUT: true; the input reads as it did. -/
def queuePlaysSpec : ChangeSpec := { name := "queuePlays", fn := fun _ => fun
  | [d] => { results := [.lit (.bool true)], args := [d] }
  | _ => none }
def queuePlaysRow : OpenClaim := { program := "ytdacadhiogikdaa", sum := "cb9554173b3fdd6afa10a9348674a08622e402606aeb137d4151c1d6d4b550d0", func := "carousel/carousellaw16.QueuePlays", spec := "queuePlays", unfollowed := true, recurses := true, apart := false }
def QueuePlaysSaid : Prop := queuePlaysRow.holds Try.pinned (OpenSpec.ofChange queuePlaysSpec)

/-- ITS FALSE NEIGHBOUR: 'it returns false'. Refute it at one input. -/
def queuePlaysWrong : ChangeSpec := { name := "queuePlays", fn := fun _ => fun
  | [d] => { results := [.lit (.bool false)], args := [d] }
  | _ => none }
def QueuePlaysWrongFalsely : Prop := queuePlaysRow.holds Try.pinned (OpenSpec.ofChange queuePlaysWrong)

/-- 'carousellaw16.QueueOwns': WHATEVER THE INPUT: true; the input reads as it did. -/
def queueOwnsSpec : ChangeSpec := { name := "queueOwns", fn := fun _ => fun
  | [d] => { results := [.lit (.bool true)], args := [d] }
  | _ => none }
def queueOwnsRow : OpenClaim := { program := "ytdacadhiogikdaa", sum := "cb9554173b3fdd6afa10a9348674a08622e402606aeb137d4151c1d6d4b550d0", func := "carousel/carousellaw16.QueueOwns", spec := "queueOwns", unfollowed := true, recurses := true, apart := false }
def QueueOwnsSaid : Prop := queueOwnsRow.holds Try.pinned (OpenSpec.ofChange queueOwnsSpec)

/-- ITS FALSE NEIGHBOUR: 'it returns false'. Refute it at one input. -/
def queueOwnsWrong : ChangeSpec := { name := "queueOwns", fn := fun _ => fun
  | [d] => { results := [.lit (.bool false)], args := [d] }
  | _ => none }
def QueueOwnsWrongFalsely : Prop := queueOwnsRow.holds Try.pinned (OpenSpec.ofChange queueOwnsWrong)

/-- 'carousellaw16.QueueApart': WHATEVER THE INPUT: true; the input reads as it did. -/
def queueApartSpec : ChangeSpec := { name := "queueApart", fn := fun _ => fun
  | [d1, d2] => { results := [.lit (.bool true)], args := [d1, d2] }
  | _ => none }
def queueApartRow : OpenClaim := { program := "ytdacadhiogikdaa", sum := "cb9554173b3fdd6afa10a9348674a08622e402606aeb137d4151c1d6d4b550d0", func := "carousel/carousellaw16.QueueApart", spec := "queueApart", unfollowed := true, recurses := true, apart := false }
def QueueApartSaid : Prop := queueApartRow.holds Try.pinned (OpenSpec.ofChange queueApartSpec)

/-- ITS FALSE NEIGHBOUR: 'it returns false'. Refute it at one input. -/
def queueApartWrong : ChangeSpec := { name := "queueApart", fn := fun _ => fun
  | [d1, d2] => { results := [.lit (.bool false)], args := [d1, d2] }
  | _ => none }
def QueueApartWrongFalsely : Prop := queueApartRow.holds Try.pinned (OpenSpec.ofChange queueApartWrong)

/-- 'carousellaw16.QueueNil': WHATEVER THE INPUT: true; the input reads as it did. -/
def queueNilSpec : ChangeSpec := { name := "queueNil", fn := fun _ => fun
  | [d1, d2, d3] => { results := [.lit (.bool true)], args := [d1, d2, d3] }
  | _ => none }
def queueNilRow : OpenClaim := { program := "ytdacadhiogikdaa", sum := "cb9554173b3fdd6afa10a9348674a08622e402606aeb137d4151c1d6d4b550d0", func := "carousel/carousellaw16.QueueNil", spec := "queueNil", unfollowed := true, recurses := true, apart := false }
def QueueNilSaid : Prop := queueNilRow.holds Try.pinned (OpenSpec.ofChange queueNilSpec)

/-- ITS FALSE NEIGHBOUR: 'it returns false'. Refute it at one input. -/
def queueNilWrong : ChangeSpec := { name := "queueNil", fn := fun _ => fun
  | [d1, d2, d3] => { results := [.lit (.bool false)], args := [d1, d2, d3] }
  | _ => none }
def QueueNilWrongFalsely : Prop := queueNilRow.holds Try.pinned (OpenSpec.ofChange queueNilWrong)

/-- 'carousellaw16.QueueEnds': WHATEVER THE INPUT: true; the input reads as it did. -/
def queueEndsSpec : ChangeSpec := { name := "queueEnds", fn := fun _ => fun
  | [d] => { results := [.lit (.bool true)], args := [d] }
  | _ => none }
def queueEndsRow : OpenClaim := { program := "ytdacadhiogikdaa", sum := "cb9554173b3fdd6afa10a9348674a08622e402606aeb137d4151c1d6d4b550d0", func := "carousel/carousellaw16.QueueEnds", spec := "queueEnds", unfollowed := true, recurses := true, apart := false }
def QueueEndsSaid : Prop := queueEndsRow.holds Try.pinned (OpenSpec.ofChange queueEndsSpec)

/-- ITS FALSE NEIGHBOUR: 'it returns false'. Refute it at one input. -/
def queueEndsWrong : ChangeSpec := { name := "queueEnds", fn := fun _ => fun
  | [d] => { results := [.lit (.bool false)], args := [d] }
  | _ => none }
def QueueEndsWrongFalsely : Prop := queueEndsRow.holds Try.pinned (OpenSpec.ofChange queueEndsWrong)

/-- 'carousellaw16.QueueMeans': WHATEVER THE INPUT: true; the input reads as it did. -/
def queueMeansSpec : ChangeSpec := { name := "queueMeans", fn := fun _ => fun
  | [d1, d2, d3] => { results := [.lit (.bool true)], args := [d1, d2, d3] }
  | _ => none }
def queueMeansRow : OpenClaim := { program := "ytdacadhiogikdaa", sum := "cb9554173b3fdd6afa10a9348674a08622e402606aeb137d4151c1d6d4b550d0", func := "carousel/carousellaw16.QueueMeans", spec := "queueMeans", unfollowed := true, recurses := true, apart := false }
def QueueMeansSaid : Prop := queueMeansRow.holds Try.pinned (OpenSpec.ofChange queueMeansSpec)

/-- ITS FALSE NEIGHBOUR: 'it returns false'. Refute it at one input. -/
def queueMeansWrong : ChangeSpec := { name := "queueMeans", fn := fun _ => fun
  | [d1, d2, d3] => { results := [.lit (.bool false)], args := [d1, d2, d3] }
  | _ => none }
def QueueMeansWrongFalsely : Prop := queueMeansRow.holds Try.pinned (OpenSpec.ofChange queueMeansWrong)

/- THE SECOND FORM. 'bulk': how many values and letters a reading holds, each counted each time it is reached (what is shared counts as often as it is met; a slice's spare places count too). A statement '..UptoSaid' is the law's where the arguments, and the package variables that the reading takes, are together of bulk at most 1048576: NARROWER than '..Said'. Prove '..Said' where nothing that the law and all that it calls make is longer than what came in: it says more and counts as full. Else prove '..UptoSaid'. A law counts once. -/
mutual
def uptoBulk {H : Type} : DataW H → Nat
  | .lit (.string bytes) => bytes.length + 1
  | .lit _ => 1
  | .nil => 1
  | .ptr d => uptoBulk d + 1
  | .slice elems spare => uptoBulkAll elems + uptoBulkAll spare + 1
  | .agg parts => uptoBulkAll parts + 1
  | .iface _ d => uptoBulk d + 1
  | .map entries => uptoBulkEntries entries + 1
  | .held _ => 1
def uptoBulkAll {H : Type} : List (DataW H) → Nat
  | [] => 0
  | d :: r => uptoBulk d + uptoBulkAll r
def uptoBulkEntries {H : Type} : List (Lit × DataW H) → Nat
  | [] => 0
  | x :: r => uptoBulkEntry x + uptoBulkEntries r
def uptoBulkEntry {H : Type} : Lit × DataW H → Nat
  | (.string bytes, d) => bytes.length + uptoBulk d + 1
  | (_, d) => uptoBulk d + 1
 end
def uptoSmall : (H : Type) → List (DataW H) → Bool := fun _ ds => decide (uptoBulkAll ds ≤ 1048576)
def OpenSpec.upto (s : _root_.Go.ChangeSpec) : _root_.Go.OpenSpec := { _root_.Go.OpenSpec.ofChange s with cond := some uptoSmall }

/-- 'carousellaw16.QueueSizes', WHERE WHAT IT READS IS OF BULK AT MOST 1048576: true; the input reads as it did. -/
def queueSizesUptoRow : OpenClaim := { program := "ytdacadhiogikdaa", sum := "cb9554173b3fdd6afa10a9348674a08622e402606aeb137d4151c1d6d4b550d0", func := "carousel/carousellaw16.QueueSizes", spec := "queueSizes", apart := false, narrowed := true }
def QueueSizesUptoSaid : Prop := queueSizesUptoRow.holds Try.pinned (OpenSpec.upto queueSizesSpec)

/-- 'carousellaw16.QueueShapes', WHERE WHAT IT READS IS OF BULK AT MOST 1048576: true; the input reads as it did. -/
def queueShapesUptoRow : OpenClaim := { program := "ytdacadhiogikdaa", sum := "cb9554173b3fdd6afa10a9348674a08622e402606aeb137d4151c1d6d4b550d0", func := "carousel/carousellaw16.QueueShapes", spec := "queueShapes", apart := false, narrowed := true }
def QueueShapesUptoSaid : Prop := queueShapesUptoRow.holds Try.pinned (OpenSpec.upto queueShapesSpec)

/-- 'carousellaw16.QueuePlays', WHERE WHAT IT READS IS OF BULK AT MOST 1048576: true; the input reads as it did. -/
def queuePlaysUptoRow : OpenClaim := { program := "ytdacadhiogikdaa", sum := "cb9554173b3fdd6afa10a9348674a08622e402606aeb137d4151c1d6d4b550d0", func := "carousel/carousellaw16.QueuePlays", spec := "queuePlays", unfollowed := true, recurses := true, apart := false, narrowed := true }
def QueuePlaysUptoSaid : Prop := queuePlaysUptoRow.holds Try.pinned (OpenSpec.upto queuePlaysSpec)

/-- 'carousellaw16.QueueOwns', WHERE WHAT IT READS IS OF BULK AT MOST 1048576: true; the input reads as it did. -/
def queueOwnsUptoRow : OpenClaim := { program := "ytdacadhiogikdaa", sum := "cb9554173b3fdd6afa10a9348674a08622e402606aeb137d4151c1d6d4b550d0", func := "carousel/carousellaw16.QueueOwns", spec := "queueOwns", unfollowed := true, recurses := true, apart := false, narrowed := true }
def QueueOwnsUptoSaid : Prop := queueOwnsUptoRow.holds Try.pinned (OpenSpec.upto queueOwnsSpec)

/-- 'carousellaw16.QueueApart', WHERE WHAT IT READS IS OF BULK AT MOST 1048576: true; the input reads as it did. -/
def queueApartUptoRow : OpenClaim := { program := "ytdacadhiogikdaa", sum := "cb9554173b3fdd6afa10a9348674a08622e402606aeb137d4151c1d6d4b550d0", func := "carousel/carousellaw16.QueueApart", spec := "queueApart", unfollowed := true, recurses := true, apart := false, narrowed := true }
def QueueApartUptoSaid : Prop := queueApartUptoRow.holds Try.pinned (OpenSpec.upto queueApartSpec)

/-- 'carousellaw16.QueueNil', WHERE WHAT IT READS IS OF BULK AT MOST 1048576: true; the input reads as it did. -/
def queueNilUptoRow : OpenClaim := { program := "ytdacadhiogikdaa", sum := "cb9554173b3fdd6afa10a9348674a08622e402606aeb137d4151c1d6d4b550d0", func := "carousel/carousellaw16.QueueNil", spec := "queueNil", unfollowed := true, recurses := true, apart := false, narrowed := true }
def QueueNilUptoSaid : Prop := queueNilUptoRow.holds Try.pinned (OpenSpec.upto queueNilSpec)

/-- 'carousellaw16.QueueEnds', WHERE WHAT IT READS IS OF BULK AT MOST 1048576: true; the input reads as it did. -/
def queueEndsUptoRow : OpenClaim := { program := "ytdacadhiogikdaa", sum := "cb9554173b3fdd6afa10a9348674a08622e402606aeb137d4151c1d6d4b550d0", func := "carousel/carousellaw16.QueueEnds", spec := "queueEnds", unfollowed := true, recurses := true, apart := false, narrowed := true }
def QueueEndsUptoSaid : Prop := queueEndsUptoRow.holds Try.pinned (OpenSpec.upto queueEndsSpec)

/-- 'carousellaw16.QueueMeans', WHERE WHAT IT READS IS OF BULK AT MOST 1048576: true; the input reads as it did. -/
def queueMeansUptoRow : OpenClaim := { program := "ytdacadhiogikdaa", sum := "cb9554173b3fdd6afa10a9348674a08622e402606aeb137d4151c1d6d4b550d0", func := "carousel/carousellaw16.QueueMeans", spec := "queueMeans", unfollowed := true, recurses := true, apart := false, narrowed := true }
def QueueMeansUptoSaid : Prop := queueMeansUptoRow.holds Try.pinned (OpenSpec.upto queueMeansSpec)

end Rows
end Go.Proofs.Ytdacadhiogikdaa
