/-
  DERIVED. GIVEN WITH THE SEED: THE CARDS: each row of YtkgliiibblmgfaaGreatDoorRows.lean that lists a variable, with what it lists TIED to the program's text (the seventh form; the later family's looks); each row that meets fmt, with fmt's text TOLD by the authors' own Lean function (tested against real Go, not proved from fmt's source: count such statements apart). THE CARD IS WHAT COUNTS. Prove the row's statement (the work); the ties are given (YtkgliiibblmgfaaGreatDoorTie.lean); close each card by the builder's one call (the guide's Derived/Test/ToyasCard.lean, 'card_holds'). Laid BY PROGRAM, IN A SANDBOX (cutbox-door.mjs). By AI agents, Wed Nov 11 2026. No macro, syntax, notation, axiom, sorry.
-/
import Derived.Test.YtkgliiibblmgfaaGreatDoorRows
import GoSem.ClaimSeven
namespace Go.Proofs.YtkgliiibblmgfaaGreatDoor
namespace Rows

/-- THE TIED CARD OF 'dogwatchtop.TopFailed'. -/
def topFailedCard : Claim7 := { stood := { row := topFailedRow, standIns := [], harness := (true, "8ec45362e75fee49a2b2201ad2f95d13c83c4b7b5b09e05b64cfac964e45c1da"), looks := true }, kinds := [], alts := [], laidByText := true, laidKinds := [.data], laidTests := true, laidLooks := .later }
def TopFailedCardSaid : Prop := Claim7.holds Tryz.pinned (.plain (OpenSpec.ofChange topFailedSpec)) topFailedCard

/-- THE TIED CARD OF 'dogwatchtop.TopEdges'. -/
def topEdgesCard : Claim7 := { stood := { row := topEdgesRow, standIns := [], harness := (true, "8ec45362e75fee49a2b2201ad2f95d13c83c4b7b5b09e05b64cfac964e45c1da"), looks := true }, kinds := [], alts := [], laidByText := true, laidKinds := [.data], laidTests := true, laidLooks := .later }
def TopEdgesCardSaid : Prop := Claim7.holds Tryz.pinned (.plain (OpenSpec.ofChange topEdgesSpec)) topEdgesCard

/-- THE SECOND FORM's CARD OF 'dogwatchtop.TopFailed'. -/
def topFailedUptoCard : Claim7 := { stood := { row := topFailedUptoRow, standIns := [], harness := (true, "8ec45362e75fee49a2b2201ad2f95d13c83c4b7b5b09e05b64cfac964e45c1da"), looks := true }, kinds := [], alts := [], laidByText := true, laidKinds := [.data], laidTests := true, laidLooks := .later }
def TopFailedUptoCardSaid : Prop := Claim7.holds Tryz.pinned (.plain (OpenSpec.upto topFailedSpec)) topFailedUptoCard

/-- THE SECOND FORM's CARD OF 'dogwatchtop.TopEdges'. -/
def topEdgesUptoCard : Claim7 := { stood := { row := topEdgesUptoRow, standIns := [], harness := (true, "8ec45362e75fee49a2b2201ad2f95d13c83c4b7b5b09e05b64cfac964e45c1da"), looks := true }, kinds := [], alts := [], laidByText := true, laidKinds := [.data], laidTests := true, laidLooks := .later }
def TopEdgesUptoCardSaid : Prop := Claim7.holds Tryz.pinned (.plain (OpenSpec.upto topEdgesSpec)) topEdgesUptoCard
end Rows
end Go.Proofs.YtkgliiibblmgfaaGreatDoor
