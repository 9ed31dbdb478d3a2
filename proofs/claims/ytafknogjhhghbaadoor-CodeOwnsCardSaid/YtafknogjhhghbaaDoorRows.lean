/-
  NARROWER THAN 'FOR EVERY INPUT', by the rows' own cells (each row's printed sentence says how): CodeEncodes: laid · CodeTells: laid · CodeLocal: laid · CodeDecodes: laid · CodeWalks: laid · CodeBack: laid · CodeThere: laid · CodeOwns: laid.
  DERIVED. THE GIVEN ROWS OF THIS SEAT. 8 by the template 'for every input the law returns true; each argument reads behind the call as it read before'; 0 by the template 'total and deterministic' (their statements: YtafknogjhhghbaaDoorTotals.lean).
  GIVEN WITH THE SEED: the statements are not yours to turn. If you find one false, say at which input.
  Laid BY PROGRAM, IN A SANDBOX (cutbox-rows.mjs): the forced cells as the released guide's own fill.sh prints them over the translation 5d2aad9cf19f11d5… (all of the seat's roots in one cut). By AI agents, Wed Nov 11 2026. No macro, syntax, notation, axiom, sorry.
-/
import Derived.Test.YtafknogjhhghbaaDoorChecked
import GoSem.Claim
import GoSem.ClaimJoined
import GoSem.ClaimMapViews
import Derived.JoinedTies
import Derived.KernelRfl
namespace Go.Proofs.YtafknogjhhghbaaDoor
/- THE CELL 'sum', in the pinned program and in every row, IS THE sha256 OF THE DUMP (.gsa) THAT YtafknogjhhghbaaDoorProg.lean LOADS. Nothing in Lean hashes anything: it is a label: what it is worth is what the hold of that sum in a sandbox is worth. -/
noncomputable def Tryd.pinned : Pinned := { name := "ytafknogjhhghbaadoor", sum := "5d2aad9cf19f11d59d7c0df779823738a9a8a1745ded55adedfbbe1d9eab9642", checked := Tryd.checked }
namespace Rows
def none {H : Type} : Left H := { results := [], args := [] }

/- WHAT THE LISTED PACKAGE-LEVEL VARIABLES READ AS WHEN THE CALL BEGINS. Each datum BY PROGRAM (the guide's laid-datum.mjs) off the statement by which the dump's own 'gosem.cut.vars' lays the variable. In a bare row this is a premise. The card (YtafknogjhhghbaaDoorCards.lean) ties it to the program's text. -/
def laid_carousel_code_shapes {H : Type} : DataW H := .agg [.lit (.int .u8 0), .lit (.int .u8 1), .lit (.int .u8 2), .lit (.int .u8 3), .lit (.int .u8 0), .lit (.int .u8 0), .lit (.int .u8 0), .lit (.int .u8 0), .lit (.int .u8 0), .lit (.int .u8 0), .lit (.int .u8 0), .lit (.int .u8 0), .lit (.int .u8 0), .lit (.int .u8 0), .lit (.int .u8 0), .lit (.int .u8 0), .lit (.int .u8 0), .lit (.int .u8 0), .lit (.int .u8 0), .lit (.int .u8 0), .lit (.int .u8 0), .lit (.int .u8 0), .lit (.int .u8 0), .lit (.int .u8 4), .lit (.int .u8 2), .lit (.int .u8 2), .lit (.int .u8 6), .lit (.int .u8 0), .lit (.int .u8 5), .lit (.int .u8 0), .lit (.int .u8 0), .lit (.int .u8 0), .lit (.int .u8 0), .lit (.int .u8 5), .lit (.int .u8 5), .lit (.int .u8 5), .lit (.int .u8 5), .lit (.int .u8 5), .lit (.int .u8 5), .lit (.int .u8 5), .lit (.int .u8 5)]

/-- 'carousellaw13.CodeEncodes': WHATEVER THE INPUT: true; the input reads as it did. -/
def codeEncodesSpec : ChangeSpec := { name := "codeEncodes", fn := fun _ => fun
  | [d] => { results := [.lit (.bool true)], args := [d] }
  | _ => none }
def codeEncodesRow : OpenClaim := { program := "ytafknogjhhghbaadoor", sum := "5d2aad9cf19f11d59d7c0df779823738a9a8a1745ded55adedfbbe1d9eab9642", func := "carousel/carousellaw13.CodeEncodes", spec := "codeEncodes", named := ["carousel/code.shapes"], apart := false, laid := [("carousel/code.shapes", laid_carousel_code_shapes)] }
def CodeEncodesSaid : Prop := codeEncodesRow.holds Tryd.pinned (OpenSpec.ofChange codeEncodesSpec)

/-- ITS FALSE NEIGHBOUR: 'it returns false'. Refute it at one input. -/
def codeEncodesWrong : ChangeSpec := { name := "codeEncodes", fn := fun _ => fun
  | [d] => { results := [.lit (.bool false)], args := [d] }
  | _ => none }
def CodeEncodesWrongFalsely : Prop := codeEncodesRow.holds Tryd.pinned (OpenSpec.ofChange codeEncodesWrong)

/-- 'carousellaw13.CodeTells': WHATEVER THE INPUT: true; the input reads as it did. -/
def codeTellsSpec : ChangeSpec := { name := "codeTells", fn := fun _ => fun
  | [d1, d2] => { results := [.lit (.bool true)], args := [d1, d2] }
  | _ => none }
def codeTellsRow : OpenClaim := { program := "ytafknogjhhghbaadoor", sum := "5d2aad9cf19f11d59d7c0df779823738a9a8a1745ded55adedfbbe1d9eab9642", func := "carousel/carousellaw13.CodeTells", spec := "codeTells", named := ["carousel/code.shapes"], apart := false, laid := [("carousel/code.shapes", laid_carousel_code_shapes)] }
def CodeTellsSaid : Prop := codeTellsRow.holds Tryd.pinned (OpenSpec.ofChange codeTellsSpec)

/-- ITS FALSE NEIGHBOUR: 'it returns false'. Refute it at one input. -/
def codeTellsWrong : ChangeSpec := { name := "codeTells", fn := fun _ => fun
  | [d1, d2] => { results := [.lit (.bool false)], args := [d1, d2] }
  | _ => none }
def CodeTellsWrongFalsely : Prop := codeTellsRow.holds Tryd.pinned (OpenSpec.ofChange codeTellsWrong)

/-- 'carousellaw13.CodeLocal': WHATEVER THE INPUT: true; the input reads as it did. -/
def codeLocalSpec : ChangeSpec := { name := "codeLocal", fn := fun _ => fun
  | [d] => { results := [.lit (.bool true)], args := [d] }
  | _ => none }
def codeLocalRow : OpenClaim := { program := "ytafknogjhhghbaadoor", sum := "5d2aad9cf19f11d59d7c0df779823738a9a8a1745ded55adedfbbe1d9eab9642", func := "carousel/carousellaw13.CodeLocal", spec := "codeLocal", named := ["carousel/code.shapes"], apart := false, laid := [("carousel/code.shapes", laid_carousel_code_shapes)] }
def CodeLocalSaid : Prop := codeLocalRow.holds Tryd.pinned (OpenSpec.ofChange codeLocalSpec)

/-- ITS FALSE NEIGHBOUR: 'it returns false'. Refute it at one input. -/
def codeLocalWrong : ChangeSpec := { name := "codeLocal", fn := fun _ => fun
  | [d] => { results := [.lit (.bool false)], args := [d] }
  | _ => none }
def CodeLocalWrongFalsely : Prop := codeLocalRow.holds Tryd.pinned (OpenSpec.ofChange codeLocalWrong)

/-- 'carousellaw13.CodeDecodes': WHATEVER THE INPUT: true; the input reads as it did. -/
def codeDecodesSpec : ChangeSpec := { name := "codeDecodes", fn := fun _ => fun
  | [d] => { results := [.lit (.bool true)], args := [d] }
  | _ => none }
def codeDecodesRow : OpenClaim := { program := "ytafknogjhhghbaadoor", sum := "5d2aad9cf19f11d59d7c0df779823738a9a8a1745ded55adedfbbe1d9eab9642", func := "carousel/carousellaw13.CodeDecodes", spec := "codeDecodes", named := ["carousel/code.shapes"], apart := false, laid := [("carousel/code.shapes", laid_carousel_code_shapes)] }
def CodeDecodesSaid : Prop := codeDecodesRow.holds Tryd.pinned (OpenSpec.ofChange codeDecodesSpec)

/-- ITS FALSE NEIGHBOUR: 'it returns false'. Refute it at one input. -/
def codeDecodesWrong : ChangeSpec := { name := "codeDecodes", fn := fun _ => fun
  | [d] => { results := [.lit (.bool false)], args := [d] }
  | _ => none }
def CodeDecodesWrongFalsely : Prop := codeDecodesRow.holds Tryd.pinned (OpenSpec.ofChange codeDecodesWrong)

/-- 'carousellaw13.CodeWalks': WHATEVER THE INPUT: true; the input reads as it did. -/
def codeWalksSpec : ChangeSpec := { name := "codeWalks", fn := fun _ => fun
  | [d] => { results := [.lit (.bool true)], args := [d] }
  | _ => none }
def codeWalksRow : OpenClaim := { program := "ytafknogjhhghbaadoor", sum := "5d2aad9cf19f11d59d7c0df779823738a9a8a1745ded55adedfbbe1d9eab9642", func := "carousel/carousellaw13.CodeWalks", spec := "codeWalks", named := ["carousel/code.shapes"], apart := false, laid := [("carousel/code.shapes", laid_carousel_code_shapes)] }
def CodeWalksSaid : Prop := codeWalksRow.holds Tryd.pinned (OpenSpec.ofChange codeWalksSpec)

/-- ITS FALSE NEIGHBOUR: 'it returns false'. Refute it at one input. -/
def codeWalksWrong : ChangeSpec := { name := "codeWalks", fn := fun _ => fun
  | [d] => { results := [.lit (.bool false)], args := [d] }
  | _ => none }
def CodeWalksWrongFalsely : Prop := codeWalksRow.holds Tryd.pinned (OpenSpec.ofChange codeWalksWrong)

/-- 'carousellaw13.CodeBack': WHATEVER THE INPUT: true; the input reads as it did. -/
def codeBackSpec : ChangeSpec := { name := "codeBack", fn := fun _ => fun
  | [d] => { results := [.lit (.bool true)], args := [d] }
  | _ => none }
def codeBackRow : OpenClaim := { program := "ytafknogjhhghbaadoor", sum := "5d2aad9cf19f11d59d7c0df779823738a9a8a1745ded55adedfbbe1d9eab9642", func := "carousel/carousellaw13.CodeBack", spec := "codeBack", named := ["carousel/code.shapes"], apart := false, laid := [("carousel/code.shapes", laid_carousel_code_shapes)] }
def CodeBackSaid : Prop := codeBackRow.holds Tryd.pinned (OpenSpec.ofChange codeBackSpec)

/-- ITS FALSE NEIGHBOUR: 'it returns false'. Refute it at one input. -/
def codeBackWrong : ChangeSpec := { name := "codeBack", fn := fun _ => fun
  | [d] => { results := [.lit (.bool false)], args := [d] }
  | _ => none }
def CodeBackWrongFalsely : Prop := codeBackRow.holds Tryd.pinned (OpenSpec.ofChange codeBackWrong)

/-- 'carousellaw13.CodeThere': WHATEVER THE INPUT: true; the input reads as it did. -/
def codeThereSpec : ChangeSpec := { name := "codeThere", fn := fun _ => fun
  | [d] => { results := [.lit (.bool true)], args := [d] }
  | _ => none }
def codeThereRow : OpenClaim := { program := "ytafknogjhhghbaadoor", sum := "5d2aad9cf19f11d59d7c0df779823738a9a8a1745ded55adedfbbe1d9eab9642", func := "carousel/carousellaw13.CodeThere", spec := "codeThere", named := ["carousel/code.shapes"], apart := false, laid := [("carousel/code.shapes", laid_carousel_code_shapes)] }
def CodeThereSaid : Prop := codeThereRow.holds Tryd.pinned (OpenSpec.ofChange codeThereSpec)

/-- ITS FALSE NEIGHBOUR: 'it returns false'. Refute it at one input. -/
def codeThereWrong : ChangeSpec := { name := "codeThere", fn := fun _ => fun
  | [d] => { results := [.lit (.bool false)], args := [d] }
  | _ => none }
def CodeThereWrongFalsely : Prop := codeThereRow.holds Tryd.pinned (OpenSpec.ofChange codeThereWrong)

/-- 'carousellaw13.CodeOwns': WHATEVER THE INPUT: true; the input reads as it did. -/
def codeOwnsSpec : ChangeSpec := { name := "codeOwns", fn := fun _ => fun
  | [d1, d2] => { results := [.lit (.bool true)], args := [d1, d2] }
  | _ => none }
def codeOwnsRow : OpenClaim := { program := "ytafknogjhhghbaadoor", sum := "5d2aad9cf19f11d59d7c0df779823738a9a8a1745ded55adedfbbe1d9eab9642", func := "carousel/carousellaw13.CodeOwns", spec := "codeOwns", named := ["carousel/code.shapes"], apart := false, laid := [("carousel/code.shapes", laid_carousel_code_shapes)] }
def CodeOwnsSaid : Prop := codeOwnsRow.holds Tryd.pinned (OpenSpec.ofChange codeOwnsSpec)

/-- ITS FALSE NEIGHBOUR: 'it returns false'. Refute it at one input. -/
def codeOwnsWrong : ChangeSpec := { name := "codeOwns", fn := fun _ => fun
  | [d1, d2] => { results := [.lit (.bool false)], args := [d1, d2] }
  | _ => none }
def CodeOwnsWrongFalsely : Prop := codeOwnsRow.holds Tryd.pinned (OpenSpec.ofChange codeOwnsWrong)

/- THE SECOND FORM. 'bulk': how many values and letters a reading holds, each counted each time it is reached (what is shared counts as often as it is met; a slice's spare places count too). A statement '..UptoSaid' is the law's where the arguments, and the package variables that the reading takes, are together of bulk at most 1048576: NARROWER than '..Said'. Prove '..Said' where nothing that the law and all that it calls make is longer than what came in: it says more and counts as full. Else prove '..UptoSaid'. A law counts once. -/
mutual
def uptoBulk {H : Type} : DataW H → Nat
  | .lit (.string bytes) => bytes.length + 1
  | .lit _ => 1
  | .nil => 1
  | .ptr d => uptoBulk d + 1
  | .slice elems spare => uptoBulkAll elems + uptoBulkAll spare + 1
  | .agg parts => uptoBulkAll parts + 1
  | .iface _ d => uptoBulk d + 1
  | .map entries => uptoBulkEntries entries + 1
  | .held _ => 1
def uptoBulkAll {H : Type} : List (DataW H) → Nat
  | [] => 0
  | d :: r => uptoBulk d + uptoBulkAll r
def uptoBulkEntries {H : Type} : List (Lit × DataW H) → Nat
  | [] => 0
  | x :: r => uptoBulkEntry x + uptoBulkEntries r
def uptoBulkEntry {H : Type} : Lit × DataW H → Nat
  | (.string bytes, d) => bytes.length + uptoBulk d + 1
  | (_, d) => uptoBulk d + 1
 end
def uptoSmall : (H : Type) → List (DataW H) → Bool := fun _ ds => decide (uptoBulkAll ds ≤ 1048576)
def OpenSpec.upto (s : _root_.Go.ChangeSpec) : _root_.Go.OpenSpec := { _root_.Go.OpenSpec.ofChange s with cond := some uptoSmall }

/-- 'carousellaw13.CodeEncodes', WHERE WHAT IT READS IS OF BULK AT MOST 1048576: true; the input reads as it did. -/
def codeEncodesUptoRow : OpenClaim := { program := "ytafknogjhhghbaadoor", sum := "5d2aad9cf19f11d59d7c0df779823738a9a8a1745ded55adedfbbe1d9eab9642", func := "carousel/carousellaw13.CodeEncodes", spec := "codeEncodes", named := ["carousel/code.shapes"], apart := false, laid := [("carousel/code.shapes", laid_carousel_code_shapes)], narrowed := true }
def CodeEncodesUptoSaid : Prop := codeEncodesUptoRow.holds Tryd.pinned (OpenSpec.upto codeEncodesSpec)

/-- 'carousellaw13.CodeTells', WHERE WHAT IT READS IS OF BULK AT MOST 1048576: true; the input reads as it did. -/
def codeTellsUptoRow : OpenClaim := { program := "ytafknogjhhghbaadoor", sum := "5d2aad9cf19f11d59d7c0df779823738a9a8a1745ded55adedfbbe1d9eab9642", func := "carousel/carousellaw13.CodeTells", spec := "codeTells", named := ["carousel/code.shapes"], apart := false, laid := [("carousel/code.shapes", laid_carousel_code_shapes)], narrowed := true }
def CodeTellsUptoSaid : Prop := codeTellsUptoRow.holds Tryd.pinned (OpenSpec.upto codeTellsSpec)

/-- 'carousellaw13.CodeLocal', WHERE WHAT IT READS IS OF BULK AT MOST 1048576: true; the input reads as it did. -/
def codeLocalUptoRow : OpenClaim := { program := "ytafknogjhhghbaadoor", sum := "5d2aad9cf19f11d59d7c0df779823738a9a8a1745ded55adedfbbe1d9eab9642", func := "carousel/carousellaw13.CodeLocal", spec := "codeLocal", named := ["carousel/code.shapes"], apart := false, laid := [("carousel/code.shapes", laid_carousel_code_shapes)], narrowed := true }
def CodeLocalUptoSaid : Prop := codeLocalUptoRow.holds Tryd.pinned (OpenSpec.upto codeLocalSpec)

/-- 'carousellaw13.CodeDecodes', WHERE WHAT IT READS IS OF BULK AT MOST 1048576: true; the input reads as it did. -/
def codeDecodesUptoRow : OpenClaim := { program := "ytafknogjhhghbaadoor", sum := "5d2aad9cf19f11d59d7c0df779823738a9a8a1745ded55adedfbbe1d9eab9642", func := "carousel/carousellaw13.CodeDecodes", spec := "codeDecodes", named := ["carousel/code.shapes"], apart := false, laid := [("carousel/code.shapes", laid_carousel_code_shapes)], narrowed := true }
def CodeDecodesUptoSaid : Prop := codeDecodesUptoRow.holds Tryd.pinned (OpenSpec.upto codeDecodesSpec)

/-- 'carousellaw13.CodeWalks', WHERE WHAT IT READS IS OF BULK AT MOST 1048576: true; the input reads as it did. -/
def codeWalksUptoRow : OpenClaim := { program := "ytafknogjhhghbaadoor", sum := "5d2aad9cf19f11d59d7c0df779823738a9a8a1745ded55adedfbbe1d9eab9642", func := "carousel/carousellaw13.CodeWalks", spec := "codeWalks", named := ["carousel/code.shapes"], apart := false, laid := [("carousel/code.shapes", laid_carousel_code_shapes)], narrowed := true }
def CodeWalksUptoSaid : Prop := codeWalksUptoRow.holds Tryd.pinned (OpenSpec.upto codeWalksSpec)

/-- 'carousellaw13.CodeBack', WHERE WHAT IT READS IS OF BULK AT MOST 1048576: true; the input reads as it did. -/
def codeBackUptoRow : OpenClaim := { program := "ytafknogjhhghbaadoor", sum := "5d2aad9cf19f11d59d7c0df779823738a9a8a1745ded55adedfbbe1d9eab9642", func := "carousel/carousellaw13.CodeBack", spec := "codeBack", named := ["carousel/code.shapes"], apart := false, laid := [("carousel/code.shapes", laid_carousel_code_shapes)], narrowed := true }
def CodeBackUptoSaid : Prop := codeBackUptoRow.holds Tryd.pinned (OpenSpec.upto codeBackSpec)

/-- 'carousellaw13.CodeThere', WHERE WHAT IT READS IS OF BULK AT MOST 1048576: true; the input reads as it did. -/
def codeThereUptoRow : OpenClaim := { program := "ytafknogjhhghbaadoor", sum := "5d2aad9cf19f11d59d7c0df779823738a9a8a1745ded55adedfbbe1d9eab9642", func := "carousel/carousellaw13.CodeThere", spec := "codeThere", named := ["carousel/code.shapes"], apart := false, laid := [("carousel/code.shapes", laid_carousel_code_shapes)], narrowed := true }
def CodeThereUptoSaid : Prop := codeThereUptoRow.holds Tryd.pinned (OpenSpec.upto codeThereSpec)

/-- 'carousellaw13.CodeOwns', WHERE WHAT IT READS IS OF BULK AT MOST 1048576: true; the input reads as it did. -/
def codeOwnsUptoRow : OpenClaim := { program := "ytafknogjhhghbaadoor", sum := "5d2aad9cf19f11d59d7c0df779823738a9a8a1745ded55adedfbbe1d9eab9642", func := "carousel/carousellaw13.CodeOwns", spec := "codeOwns", named := ["carousel/code.shapes"], apart := false, laid := [("carousel/code.shapes", laid_carousel_code_shapes)], narrowed := true }
def CodeOwnsUptoSaid : Prop := codeOwnsUptoRow.holds Tryd.pinned (OpenSpec.upto codeOwnsSpec)

end Rows
end Go.Proofs.YtafknogjhhghbaaDoor
