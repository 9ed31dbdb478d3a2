/-
  No cell of these rows narrows 'for every input' (looked for: loops, veiled, ifaces, maps, wideKeys, modest, calm, conditions, laid).
  DERIVED. THE GIVEN ROWS OF THIS SEAT. 6 by the template 'for every input the law returns true; each argument reads behind the call as it read before'; 0 by the template 'total and deterministic' (their statements: YtkefkepbjbfcpaaTotals.lean).
  GIVEN WITH THE SEED: the statements are not yours to turn. If you find one false, say at which input.
  Laid BY PROGRAM, IN A SANDBOX (cutbox-rows.mjs): the forced cells as the released guide's own fill.sh prints them over the translation afe2ee0cd27fcd86… (all of the seat's roots in one cut). By AI agents, Wed Nov 11 2026. No macro, syntax, notation, axiom, sorry.
-/
import Derived.Test.YtkefkepbjbfcpaaChecked
import GoSem.Claim
import GoSem.ClaimJoined
import GoSem.ClaimMapViews
import Derived.JoinedTies
import Derived.KernelRfl
namespace Go.Proofs.Ytkefkepbjbfcpaa
/- THE CELL 'sum', in the pinned program and in every row, IS THE sha256 OF THE DUMP (.gsa) THAT YtkefkepbjbfcpaaProg.lean LOADS. Nothing in Lean hashes anything: it is a label: what it is worth is what the hold of that sum in a sandbox is worth. -/
noncomputable def Try.pinned : Pinned := { name := "ytkefkepbjbfcpaa", sum := "afe2ee0cd27fcd869f85688435b993ec539279ae82bff1f6e01f932fa62a0719", checked := Try.checked }
namespace Rows
def none {H : Type} : Left H := { results := [], args := [] }

/-- 'carousellaw19.PlaceSizes': WHATEVER THE INPUT: true; the input reads as it did. -/
def placeSizesSpec : ChangeSpec := { name := "placeSizes", fn := fun _ => fun
  | [d] => { results := [.lit (.bool true)], args := [d] }
  | _ => none }
def placeSizesRow : OpenClaim := { program := "ytkefkepbjbfcpaa", sum := "afe2ee0cd27fcd869f85688435b993ec539279ae82bff1f6e01f932fa62a0719", func := "carousel/carousellaw19.PlaceSizes", spec := "placeSizes", unfollowed := true, recurses := true, apart := false }
def PlaceSizesSaid : Prop := placeSizesRow.holds Try.pinned (OpenSpec.ofChange placeSizesSpec)

/-- ITS FALSE NEIGHBOUR: 'it returns false'. Refute it at one input. -/
def placeSizesWrong : ChangeSpec := { name := "placeSizes", fn := fun _ => fun
  | [d] => { results := [.lit (.bool false)], args := [d] }
  | _ => none }
def PlaceSizesWrongFalsely : Prop := placeSizesRow.holds Try.pinned (OpenSpec.ofChange placeSizesWrong)

/-- 'carousellaw19.PlaceChecks': WHATEVER THE INPUT: true; the input reads as it did. -/
def placeChecksSpec : ChangeSpec := { name := "placeChecks", fn := fun _ => fun
  | [d] => { results := [.lit (.bool true)], args := [d] }
  | _ => none }
def placeChecksRow : OpenClaim := { program := "ytkefkepbjbfcpaa", sum := "afe2ee0cd27fcd869f85688435b993ec539279ae82bff1f6e01f932fa62a0719", func := "carousel/carousellaw19.PlaceChecks", spec := "placeChecks", unfollowed := true, recurses := true, apart := false }
def PlaceChecksSaid : Prop := placeChecksRow.holds Try.pinned (OpenSpec.ofChange placeChecksSpec)

/-- ITS FALSE NEIGHBOUR: 'it returns false'. Refute it at one input. -/
def placeChecksWrong : ChangeSpec := { name := "placeChecks", fn := fun _ => fun
  | [d] => { results := [.lit (.bool false)], args := [d] }
  | _ => none }
def PlaceChecksWrongFalsely : Prop := placeChecksRow.holds Try.pinned (OpenSpec.ofChange placeChecksWrong)

/-- 'carousellaw19.PlaceCells': WHATEVER THE INPUT: true; the input reads as it did. -/
def placeCellsSpec : ChangeSpec := { name := "placeCells", fn := fun _ => fun
  | [d] => { results := [.lit (.bool true)], args := [d] }
  | _ => none }
def placeCellsRow : OpenClaim := { program := "ytkefkepbjbfcpaa", sum := "afe2ee0cd27fcd869f85688435b993ec539279ae82bff1f6e01f932fa62a0719", func := "carousel/carousellaw19.PlaceCells", spec := "placeCells", unfollowed := true, recurses := true, apart := false }
def PlaceCellsSaid : Prop := placeCellsRow.holds Try.pinned (OpenSpec.ofChange placeCellsSpec)

/-- ITS FALSE NEIGHBOUR: 'it returns false'. Refute it at one input. -/
def placeCellsWrong : ChangeSpec := { name := "placeCells", fn := fun _ => fun
  | [d] => { results := [.lit (.bool false)], args := [d] }
  | _ => none }
def PlaceCellsWrongFalsely : Prop := placeCellsRow.holds Try.pinned (OpenSpec.ofChange placeCellsWrong)

/-- 'carousellaw19.PlaceBases': WHATEVER THE INPUT: true; the input reads as it did. -/
def placeBasesSpec : ChangeSpec := { name := "placeBases", fn := fun _ => fun
  | [d1, d2] => { results := [.lit (.bool true)], args := [d1, d2] }
  | _ => none }
def placeBasesRow : OpenClaim := { program := "ytkefkepbjbfcpaa", sum := "afe2ee0cd27fcd869f85688435b993ec539279ae82bff1f6e01f932fa62a0719", func := "carousel/carousellaw19.PlaceBases", spec := "placeBases", unfollowed := true, recurses := true, apart := false }
def PlaceBasesSaid : Prop := placeBasesRow.holds Try.pinned (OpenSpec.ofChange placeBasesSpec)

/-- ITS FALSE NEIGHBOUR: 'it returns false'. Refute it at one input. -/
def placeBasesWrong : ChangeSpec := { name := "placeBases", fn := fun _ => fun
  | [d1, d2] => { results := [.lit (.bool false)], args := [d1, d2] }
  | _ => none }
def PlaceBasesWrongFalsely : Prop := placeBasesRow.holds Try.pinned (OpenSpec.ofChange placeBasesWrong)

/-- 'carousellaw19.PlaceApart': WHATEVER THE INPUT: true; the input reads as it did. -/
def placeApartSpec : ChangeSpec := { name := "placeApart", fn := fun _ => fun
  | [d] => { results := [.lit (.bool true)], args := [d] }
  | _ => none }
def placeApartRow : OpenClaim := { program := "ytkefkepbjbfcpaa", sum := "afe2ee0cd27fcd869f85688435b993ec539279ae82bff1f6e01f932fa62a0719", func := "carousel/carousellaw19.PlaceApart", spec := "placeApart", unfollowed := true, recurses := true, apart := false }
def PlaceApartSaid : Prop := placeApartRow.holds Try.pinned (OpenSpec.ofChange placeApartSpec)

/-- ITS FALSE NEIGHBOUR: 'it returns false'. Refute it at one input. -/
def placeApartWrong : ChangeSpec := { name := "placeApart", fn := fun _ => fun
  | [d] => { results := [.lit (.bool false)], args := [d] }
  | _ => none }
def PlaceApartWrongFalsely : Prop := placeApartRow.holds Try.pinned (OpenSpec.ofChange placeApartWrong)

/-- 'carousellaw19.PlaceOwns': WHATEVER THE INPUT: true; the input reads as it did. -/
def placeOwnsSpec : ChangeSpec := { name := "placeOwns", fn := fun _ => fun
  | [d1, d2] => { results := [.lit (.bool true)], args := [d1, d2] }
  | _ => none }
def placeOwnsRow : OpenClaim := { program := "ytkefkepbjbfcpaa", sum := "afe2ee0cd27fcd869f85688435b993ec539279ae82bff1f6e01f932fa62a0719", func := "carousel/carousellaw19.PlaceOwns", spec := "placeOwns", unfollowed := true, recurses := true, apart := false }
def PlaceOwnsSaid : Prop := placeOwnsRow.holds Try.pinned (OpenSpec.ofChange placeOwnsSpec)

/-- ITS FALSE NEIGHBOUR: 'it returns false'. Refute it at one input. -/
def placeOwnsWrong : ChangeSpec := { name := "placeOwns", fn := fun _ => fun
  | [d1, d2] => { results := [.lit (.bool false)], args := [d1, d2] }
  | _ => none }
def PlaceOwnsWrongFalsely : Prop := placeOwnsRow.holds Try.pinned (OpenSpec.ofChange placeOwnsWrong)

/- THE SECOND FORM. 'bulk': how many values and letters a reading holds, each counted each time it is reached (what is shared counts as often as it is met; a slice's spare places count too). A statement '..UptoSaid' is the law's where the arguments, and the package variables that the reading takes, are together of bulk at most 1048576: NARROWER than '..Said'. Prove '..Said' where nothing that the law and all that it calls make is longer than what came in: it says more and counts as full. Else prove '..UptoSaid'. A law counts once. -/
mutual
def uptoBulk {H : Type} : DataW H → Nat
  | .lit (.string bytes) => bytes.length + 1
  | .lit _ => 1
  | .nil => 1
  | .ptr d => uptoBulk d + 1
  | .slice elems spare => uptoBulkAll elems + uptoBulkAll spare + 1
  | .agg parts => uptoBulkAll parts + 1
  | .iface _ d => uptoBulk d + 1
  | .map entries => uptoBulkEntries entries + 1
  | .held _ => 1
def uptoBulkAll {H : Type} : List (DataW H) → Nat
  | [] => 0
  | d :: r => uptoBulk d + uptoBulkAll r
def uptoBulkEntries {H : Type} : List (Lit × DataW H) → Nat
  | [] => 0
  | x :: r => uptoBulkEntry x + uptoBulkEntries r
def uptoBulkEntry {H : Type} : Lit × DataW H → Nat
  | (.string bytes, d) => bytes.length + uptoBulk d + 1
  | (_, d) => uptoBulk d + 1
 end
def uptoSmall : (H : Type) → List (DataW H) → Bool := fun _ ds => decide (uptoBulkAll ds ≤ 1048576)
def OpenSpec.upto (s : _root_.Go.ChangeSpec) : _root_.Go.OpenSpec := { _root_.Go.OpenSpec.ofChange s with cond := some uptoSmall }

/-- 'carousellaw19.PlaceSizes', WHERE WHAT IT READS IS OF BULK AT MOST 1048576: true; the input reads as it did. -/
def placeSizesUptoRow : OpenClaim := { program := "ytkefkepbjbfcpaa", sum := "afe2ee0cd27fcd869f85688435b993ec539279ae82bff1f6e01f932fa62a0719", func := "carousel/carousellaw19.PlaceSizes", spec := "placeSizes", unfollowed := true, recurses := true, apart := false, narrowed := true }
def PlaceSizesUptoSaid : Prop := placeSizesUptoRow.holds Try.pinned (OpenSpec.upto placeSizesSpec)

/-- 'carousellaw19.PlaceChecks', WHERE WHAT IT READS IS OF BULK AT MOST 1048576: true; the input reads as it did. -/
def placeChecksUptoRow : OpenClaim := { program := "ytkefkepbjbfcpaa", sum := "afe2ee0cd27fcd869f85688435b993ec539279ae82bff1f6e01f932fa62a0719", func := "carousel/carousellaw19.PlaceChecks", spec := "placeChecks", unfollowed := true, recurses := true, apart := false, narrowed := true }
def PlaceChecksUptoSaid : Prop := placeChecksUptoRow.holds Try.pinned (OpenSpec.upto placeChecksSpec)

/-- 'carousellaw19.PlaceCells', WHERE WHAT IT READS IS OF BULK AT MOST 1048576: true; the input reads as it did. -/
def placeCellsUptoRow : OpenClaim := { program := "ytkefkepbjbfcpaa", sum := "afe2ee0cd27fcd869f85688435b993ec539279ae82bff1f6e01f932fa62a0719", func := "carousel/carousellaw19.PlaceCells", spec := "placeCells", unfollowed := true, recurses := true, apart := false, narrowed := true }
def PlaceCellsUptoSaid : Prop := placeCellsUptoRow.holds Try.pinned (OpenSpec.upto placeCellsSpec)

/-- 'carousellaw19.PlaceBases', WHERE WHAT IT READS IS OF BULK AT MOST 1048576: true; the input reads as it did. -/
def placeBasesUptoRow : OpenClaim := { program := "ytkefkepbjbfcpaa", sum := "afe2ee0cd27fcd869f85688435b993ec539279ae82bff1f6e01f932fa62a0719", func := "carousel/carousellaw19.PlaceBases", spec := "placeBases", unfollowed := true, recurses := true, apart := false, narrowed := true }
def PlaceBasesUptoSaid : Prop := placeBasesUptoRow.holds Try.pinned (OpenSpec.upto placeBasesSpec)

/-- 'carousellaw19.PlaceApart', WHERE WHAT IT READS IS OF BULK AT MOST 1048576: true; the input reads as it did. -/
def placeApartUptoRow : OpenClaim := { program := "ytkefkepbjbfcpaa", sum := "afe2ee0cd27fcd869f85688435b993ec539279ae82bff1f6e01f932fa62a0719", func := "carousel/carousellaw19.PlaceApart", spec := "placeApart", unfollowed := true, recurses := true, apart := false, narrowed := true }
def PlaceApartUptoSaid : Prop := placeApartUptoRow.holds Try.pinned (OpenSpec.upto placeApartSpec)

/-- 'carousellaw19.PlaceOwns', WHERE WHAT IT READS IS OF BULK AT MOST 1048576: true; the input reads as it did. -/
def placeOwnsUptoRow : OpenClaim := { program := "ytkefkepbjbfcpaa", sum := "afe2ee0cd27fcd869f85688435b993ec539279ae82bff1f6e01f932fa62a0719", func := "carousel/carousellaw19.PlaceOwns", spec := "placeOwns", unfollowed := true, recurses := true, apart := false, narrowed := true }
def PlaceOwnsUptoSaid : Prop := placeOwnsUptoRow.holds Try.pinned (OpenSpec.upto placeOwnsSpec)

end Rows
end Go.Proofs.Ytkefkepbjbfcpaa
