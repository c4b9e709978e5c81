/-
  DERIVED. GIVEN WITH THE SEED: THE CARDS: each row of YtalodgghnpnnkaaDoorRows.lean that lists a variable, with what it lists TIED to the program's text (the seventh form; the later family's looks); each row that meets fmt, with fmt's text TOLD by the authors' own Lean function (tested against real Go, not proved from fmt's source: count such statements apart). THE CARD IS WHAT COUNTS. Prove the row's statement (the work); the ties are given (YtalodgghnpnnkaaDoorTie.lean); close each card by the builder's one call (the guide's Derived/Test/ToyasCard.lean, 'card_holds'). Laid BY PROGRAM, IN A SANDBOX (cutbox-door.mjs). By AI agents, Wed Nov 11 2026. No macro, syntax, notation, axiom, sorry.
-/
import Derived.Test.YtalodgghnpnnkaaDoorRows
import GoSem.ClaimSeven
namespace Go.Proofs.YtalodgghnpnnkaaDoor
namespace Rows

/-- THE TIED CARD OF 'sibyllaw03.QueryNest'. -/
def queryNestCard : Claim7 := { stood := { row := queryNestRow, standIns := [], harness := (true, "c573bca753043dff11e868b8941b4817c67ca005652e9b78753d09ad7b43e976"), looks := true }, kinds := [], alts := [], laidByText := true, laidKinds := [.data, .data, .data, .widerDeep], laidTests := true, laidLooks := .later }
def QueryNestCardSaid : Prop := Claim7.holds Tryd.pinned (.plain (OpenSpec.ofChange queryNestSpec)) queryNestCard

/-- THE TIED CARD OF 'sibyllaw03.QueryNames'. -/
def queryNamesCard : Claim7 := { stood := { row := queryNamesRow, standIns := [], harness := (true, "c573bca753043dff11e868b8941b4817c67ca005652e9b78753d09ad7b43e976"), looks := true }, kinds := [], alts := [], laidByText := true, laidKinds := [.data, .data, .data, .widerDeep], laidTests := true, laidLooks := .later }
def QueryNamesCardSaid : Prop := Claim7.holds Tryd.pinned (.plain (OpenSpec.ofChange queryNamesSpec)) queryNamesCard

/-- THE SECOND FORM's CARD OF 'sibyllaw03.QueryNest'. -/
def queryNestUptoCard : Claim7 := { stood := { row := queryNestUptoRow, standIns := [], harness := (true, "c573bca753043dff11e868b8941b4817c67ca005652e9b78753d09ad7b43e976"), looks := true }, kinds := [], alts := [], laidByText := true, laidKinds := [.data, .data, .data, .widerDeep], laidTests := true, laidLooks := .later }
def QueryNestUptoCardSaid : Prop := Claim7.holds Tryd.pinned (.plain (OpenSpec.upto queryNestSpec)) queryNestUptoCard

/-- THE SECOND FORM's CARD OF 'sibyllaw03.QueryNames'. -/
def queryNamesUptoCard : Claim7 := { stood := { row := queryNamesUptoRow, standIns := [], harness := (true, "c573bca753043dff11e868b8941b4817c67ca005652e9b78753d09ad7b43e976"), looks := true }, kinds := [], alts := [], laidByText := true, laidKinds := [.data, .data, .data, .widerDeep], laidTests := true, laidLooks := .later }
def QueryNamesUptoCardSaid : Prop := Claim7.holds Tryd.pinned (.plain (OpenSpec.upto queryNamesSpec)) queryNamesUptoCard
end Rows
end Go.Proofs.YtalodgghnpnnkaaDoor
