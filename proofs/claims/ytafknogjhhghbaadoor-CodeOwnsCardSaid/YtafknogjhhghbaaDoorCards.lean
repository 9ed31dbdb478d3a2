/-
  DERIVED. GIVEN WITH THE SEED: THE CARDS: each row of YtafknogjhhghbaaDoorRows.lean that lists a variable, with what it lists TIED to the program's text (the seventh form; the later family's looks); each row that meets fmt, with fmt's text TOLD by the authors' own Lean function (tested against real Go, not proved from fmt's source: count such statements apart). THE CARD IS WHAT COUNTS. Prove the row's statement (the work); the ties are given (YtafknogjhhghbaaDoorTie.lean); close each card by the builder's one call (the guide's Derived/Test/ToyasCard.lean, 'card_holds'). Laid BY PROGRAM, IN A SANDBOX (cutbox-door.mjs). By AI agents, Wed Nov 11 2026. No macro, syntax, notation, axiom, sorry.
-/
import Derived.Test.YtafknogjhhghbaaDoorRows
import GoSem.ClaimSeven
namespace Go.Proofs.YtafknogjhhghbaaDoor
namespace Rows

/-- THE TIED CARD OF 'carousellaw13.CodeEncodes'. -/
def codeEncodesCard : Claim7 := { stood := { row := codeEncodesRow, standIns := [], harness := (true, "dcdf28c90651fc85db0bad1263fd2bd2bd0424dd13b106cc953ebda4b87fa9cf"), looks := false }, kinds := [], alts := [], laidByText := true, laidKinds := [.data], laidTests := true, laidLooks := .later }
def CodeEncodesCardSaid : Prop := Claim7.holds Tryd.pinned (.plain (OpenSpec.ofChange codeEncodesSpec)) codeEncodesCard

/-- THE TIED CARD OF 'carousellaw13.CodeTells'. -/
def codeTellsCard : Claim7 := { stood := { row := codeTellsRow, standIns := [], harness := (true, "dcdf28c90651fc85db0bad1263fd2bd2bd0424dd13b106cc953ebda4b87fa9cf"), looks := false }, kinds := [], alts := [], laidByText := true, laidKinds := [.data], laidTests := true, laidLooks := .later }
def CodeTellsCardSaid : Prop := Claim7.holds Tryd.pinned (.plain (OpenSpec.ofChange codeTellsSpec)) codeTellsCard

/-- THE TIED CARD OF 'carousellaw13.CodeLocal'. -/
def codeLocalCard : Claim7 := { stood := { row := codeLocalRow, standIns := [], harness := (true, "dcdf28c90651fc85db0bad1263fd2bd2bd0424dd13b106cc953ebda4b87fa9cf"), looks := false }, kinds := [], alts := [], laidByText := true, laidKinds := [.data], laidTests := true, laidLooks := .later }
def CodeLocalCardSaid : Prop := Claim7.holds Tryd.pinned (.plain (OpenSpec.ofChange codeLocalSpec)) codeLocalCard

/-- THE TIED CARD OF 'carousellaw13.CodeDecodes'. -/
def codeDecodesCard : Claim7 := { stood := { row := codeDecodesRow, standIns := [], harness := (true, "dcdf28c90651fc85db0bad1263fd2bd2bd0424dd13b106cc953ebda4b87fa9cf"), looks := false }, kinds := [], alts := [], laidByText := true, laidKinds := [.data], laidTests := true, laidLooks := .later }
def CodeDecodesCardSaid : Prop := Claim7.holds Tryd.pinned (.plain (OpenSpec.ofChange codeDecodesSpec)) codeDecodesCard

/-- THE TIED CARD OF 'carousellaw13.CodeWalks'. -/
def codeWalksCard : Claim7 := { stood := { row := codeWalksRow, standIns := [], harness := (true, "dcdf28c90651fc85db0bad1263fd2bd2bd0424dd13b106cc953ebda4b87fa9cf"), looks := false }, kinds := [], alts := [], laidByText := true, laidKinds := [.data], laidTests := true, laidLooks := .later }
def CodeWalksCardSaid : Prop := Claim7.holds Tryd.pinned (.plain (OpenSpec.ofChange codeWalksSpec)) codeWalksCard

/-- THE TIED CARD OF 'carousellaw13.CodeBack'. -/
def codeBackCard : Claim7 := { stood := { row := codeBackRow, standIns := [], harness := (true, "dcdf28c90651fc85db0bad1263fd2bd2bd0424dd13b106cc953ebda4b87fa9cf"), looks := false }, kinds := [], alts := [], laidByText := true, laidKinds := [.data], laidTests := true, laidLooks := .later }
def CodeBackCardSaid : Prop := Claim7.holds Tryd.pinned (.plain (OpenSpec.ofChange codeBackSpec)) codeBackCard

/-- THE TIED CARD OF 'carousellaw13.CodeThere'. -/
def codeThereCard : Claim7 := { stood := { row := codeThereRow, standIns := [], harness := (true, "dcdf28c90651fc85db0bad1263fd2bd2bd0424dd13b106cc953ebda4b87fa9cf"), looks := false }, kinds := [], alts := [], laidByText := true, laidKinds := [.data], laidTests := true, laidLooks := .later }
def CodeThereCardSaid : Prop := Claim7.holds Tryd.pinned (.plain (OpenSpec.ofChange codeThereSpec)) codeThereCard

/-- THE TIED CARD OF 'carousellaw13.CodeOwns'. -/
def codeOwnsCard : Claim7 := { stood := { row := codeOwnsRow, standIns := [], harness := (true, "dcdf28c90651fc85db0bad1263fd2bd2bd0424dd13b106cc953ebda4b87fa9cf"), looks := false }, kinds := [], alts := [], laidByText := true, laidKinds := [.data], laidTests := true, laidLooks := .later }
def CodeOwnsCardSaid : Prop := Claim7.holds Tryd.pinned (.plain (OpenSpec.ofChange codeOwnsSpec)) codeOwnsCard

/-- THE SECOND FORM's CARD OF 'carousellaw13.CodeEncodes'. -/
def codeEncodesUptoCard : Claim7 := { stood := { row := codeEncodesUptoRow, standIns := [], harness := (true, "dcdf28c90651fc85db0bad1263fd2bd2bd0424dd13b106cc953ebda4b87fa9cf"), looks := false }, kinds := [], alts := [], laidByText := true, laidKinds := [.data], laidTests := true, laidLooks := .later }
def CodeEncodesUptoCardSaid : Prop := Claim7.holds Tryd.pinned (.plain (OpenSpec.upto codeEncodesSpec)) codeEncodesUptoCard

/-- THE SECOND FORM's CARD OF 'carousellaw13.CodeTells'. -/
def codeTellsUptoCard : Claim7 := { stood := { row := codeTellsUptoRow, standIns := [], harness := (true, "dcdf28c90651fc85db0bad1263fd2bd2bd0424dd13b106cc953ebda4b87fa9cf"), looks := false }, kinds := [], alts := [], laidByText := true, laidKinds := [.data], laidTests := true, laidLooks := .later }
def CodeTellsUptoCardSaid : Prop := Claim7.holds Tryd.pinned (.plain (OpenSpec.upto codeTellsSpec)) codeTellsUptoCard

/-- THE SECOND FORM's CARD OF 'carousellaw13.CodeLocal'. -/
def codeLocalUptoCard : Claim7 := { stood := { row := codeLocalUptoRow, standIns := [], harness := (true, "dcdf28c90651fc85db0bad1263fd2bd2bd0424dd13b106cc953ebda4b87fa9cf"), looks := false }, kinds := [], alts := [], laidByText := true, laidKinds := [.data], laidTests := true, laidLooks := .later }
def CodeLocalUptoCardSaid : Prop := Claim7.holds Tryd.pinned (.plain (OpenSpec.upto codeLocalSpec)) codeLocalUptoCard

/-- THE SECOND FORM's CARD OF 'carousellaw13.CodeDecodes'. -/
def codeDecodesUptoCard : Claim7 := { stood := { row := codeDecodesUptoRow, standIns := [], harness := (true, "dcdf28c90651fc85db0bad1263fd2bd2bd0424dd13b106cc953ebda4b87fa9cf"), looks := false }, kinds := [], alts := [], laidByText := true, laidKinds := [.data], laidTests := true, laidLooks := .later }
def CodeDecodesUptoCardSaid : Prop := Claim7.holds Tryd.pinned (.plain (OpenSpec.upto codeDecodesSpec)) codeDecodesUptoCard

/-- THE SECOND FORM's CARD OF 'carousellaw13.CodeWalks'. -/
def codeWalksUptoCard : Claim7 := { stood := { row := codeWalksUptoRow, standIns := [], harness := (true, "dcdf28c90651fc85db0bad1263fd2bd2bd0424dd13b106cc953ebda4b87fa9cf"), looks := false }, kinds := [], alts := [], laidByText := true, laidKinds := [.data], laidTests := true, laidLooks := .later }
def CodeWalksUptoCardSaid : Prop := Claim7.holds Tryd.pinned (.plain (OpenSpec.upto codeWalksSpec)) codeWalksUptoCard

/-- THE SECOND FORM's CARD OF 'carousellaw13.CodeBack'. -/
def codeBackUptoCard : Claim7 := { stood := { row := codeBackUptoRow, standIns := [], harness := (true, "dcdf28c90651fc85db0bad1263fd2bd2bd0424dd13b106cc953ebda4b87fa9cf"), looks := false }, kinds := [], alts := [], laidByText := true, laidKinds := [.data], laidTests := true, laidLooks := .later }
def CodeBackUptoCardSaid : Prop := Claim7.holds Tryd.pinned (.plain (OpenSpec.upto codeBackSpec)) codeBackUptoCard

/-- THE SECOND FORM's CARD OF 'carousellaw13.CodeThere'. -/
def codeThereUptoCard : Claim7 := { stood := { row := codeThereUptoRow, standIns := [], harness := (true, "dcdf28c90651fc85db0bad1263fd2bd2bd0424dd13b106cc953ebda4b87fa9cf"), looks := false }, kinds := [], alts := [], laidByText := true, laidKinds := [.data], laidTests := true, laidLooks := .later }
def CodeThereUptoCardSaid : Prop := Claim7.holds Tryd.pinned (.plain (OpenSpec.upto codeThereSpec)) codeThereUptoCard

/-- THE SECOND FORM's CARD OF 'carousellaw13.CodeOwns'. -/
def codeOwnsUptoCard : Claim7 := { stood := { row := codeOwnsUptoRow, standIns := [], harness := (true, "dcdf28c90651fc85db0bad1263fd2bd2bd0424dd13b106cc953ebda4b87fa9cf"), looks := false }, kinds := [], alts := [], laidByText := true, laidKinds := [.data], laidTests := true, laidLooks := .later }
def CodeOwnsUptoCardSaid : Prop := Claim7.holds Tryd.pinned (.plain (OpenSpec.upto codeOwnsSpec)) codeOwnsUptoCard
end Rows
end Go.Proofs.YtafknogjhhghbaaDoor
