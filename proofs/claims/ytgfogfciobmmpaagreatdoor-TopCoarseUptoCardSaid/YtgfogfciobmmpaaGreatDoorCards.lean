/-
  DERIVED. GIVEN WITH THE SEED: THE CARDS: each row of YtgfogfciobmmpaaGreatDoorRows.lean that lists a variable, with what it lists TIED to the program's text (the seventh form; the later family's looks); each row that meets fmt, with fmt's text TOLD by the authors' own Lean function (tested against real Go, not proved from fmt's source: count such statements apart). THE CARD IS WHAT COUNTS. Prove the row's statement (the work); the ties are given (YtgfogfciobmmpaaGreatDoorTie.lean); close each card by the builder's one call (the guide's Derived/Test/ToyasCard.lean, 'card_holds'). Laid BY PROGRAM, IN A SANDBOX (cutbox-door.mjs). By AI agents, Wed Nov 11 2026. No macro, syntax, notation, axiom, sorry.
-/
import Derived.Test.YtgfogfciobmmpaaGreatDoorRows
import GoSem.ClaimSeven
namespace Go.Proofs.YtgfogfciobmmpaaGreatDoor
namespace Rows

/-- THE TIED CARD OF 'carouseltop.TopCoarse'. -/
def topCoarseCard : Claim7 := { stood := { row := topCoarseRow, standIns := [], harness := (true, "737cd86af2e7454438b1390013255d8e52b0edeedc24430486d89e574808a542"), looks := true }, kinds := [], alts := [], laidByText := true, laidKinds := [.data], laidTests := true, laidLooks := .later }
def TopCoarseCardSaid : Prop := Claim7.holds Tryz.pinned (.plain (OpenSpec.ofChange topCoarseSpec)) topCoarseCard

/-- THE TIED CARD OF 'carouseltop.TopWhy'. -/
def topWhyCard : Claim7 := { stood := { row := topWhyRow, standIns := [], harness := (true, "737cd86af2e7454438b1390013255d8e52b0edeedc24430486d89e574808a542"), looks := true }, kinds := [], alts := [], laidByText := true, laidKinds := [.data], laidTests := true, laidLooks := .later }
def TopWhyCardSaid : Prop := Claim7.holds Tryz.pinned (.plain (OpenSpec.ofChange topWhySpec)) topWhyCard

/-- THE TIED CARD OF 'carouseltop.TopTells'. -/
def topTellsCard : Claim7 := { stood := { row := topTellsRow, standIns := [], harness := (true, "737cd86af2e7454438b1390013255d8e52b0edeedc24430486d89e574808a542"), looks := true }, kinds := [], alts := [], laidByText := true, laidKinds := [.data], laidTests := true, laidLooks := .later }
def TopTellsCardSaid : Prop := Claim7.holds Tryz.pinned (.plain (OpenSpec.ofChange topTellsSpec)) topTellsCard

/-- THE SECOND FORM's CARD OF 'carouseltop.TopCoarse'. -/
def topCoarseUptoCard : Claim7 := { stood := { row := topCoarseUptoRow, standIns := [], harness := (true, "737cd86af2e7454438b1390013255d8e52b0edeedc24430486d89e574808a542"), looks := true }, kinds := [], alts := [], laidByText := true, laidKinds := [.data], laidTests := true, laidLooks := .later }
def TopCoarseUptoCardSaid : Prop := Claim7.holds Tryz.pinned (.plain (OpenSpec.upto topCoarseSpec)) topCoarseUptoCard

/-- THE SECOND FORM's CARD OF 'carouseltop.TopWhy'. -/
def topWhyUptoCard : Claim7 := { stood := { row := topWhyUptoRow, standIns := [], harness := (true, "737cd86af2e7454438b1390013255d8e52b0edeedc24430486d89e574808a542"), looks := true }, kinds := [], alts := [], laidByText := true, laidKinds := [.data], laidTests := true, laidLooks := .later }
def TopWhyUptoCardSaid : Prop := Claim7.holds Tryz.pinned (.plain (OpenSpec.upto topWhySpec)) topWhyUptoCard

/-- THE SECOND FORM's CARD OF 'carouseltop.TopTells'. -/
def topTellsUptoCard : Claim7 := { stood := { row := topTellsUptoRow, standIns := [], harness := (true, "737cd86af2e7454438b1390013255d8e52b0edeedc24430486d89e574808a542"), looks := true }, kinds := [], alts := [], laidByText := true, laidKinds := [.data], laidTests := true, laidLooks := .later }
def TopTellsUptoCardSaid : Prop := Claim7.holds Tryz.pinned (.plain (OpenSpec.upto topTellsSpec)) topTellsUptoCard
end Rows
end Go.Proofs.YtgfogfciobmmpaaGreatDoor
