/-
  DERIVED. GIVEN WITH THE SEED: THE CARDS: each row of YtnhghaianccncaaDoorRows.lean that lists a variable, with what it lists TIED to the program's text (the seventh form; the later family's looks); each row that meets fmt, with fmt's text TOLD by the authors' own Lean function (tested against real Go, not proved from fmt's source: count such statements apart). THE CARD IS WHAT COUNTS. Prove the row's statement (the work); the ties are given (YtnhghaianccncaaDoorTie.lean); close each card by the builder's one call (the guide's Derived/Test/ToyasCard.lean, 'card_holds'). Laid BY PROGRAM, IN A SANDBOX (cutbox-door.mjs). By AI agents, Wed Nov 11 2026. No macro, syntax, notation, axiom, sorry.
-/
import Derived.Test.YtnhghaianccncaaDoorRows
import GoSem.ClaimSeven
namespace Go.Proofs.YtnhghaianccncaaDoor
namespace Rows

/-- THE TIED CARD OF 'sibyllaw04.CheckLimits'. -/
def checkLimitsCard : Claim7 := { stood := { row := checkLimitsRow, standIns := [], harness := (true, "1da1495bc493a0d6450d90b8e7e20f958540db425382197cc7c98787e1de8119"), looks := true }, kinds := [], alts := [], laidByText := true, laidKinds := [.data, .data, .data, .widerDeep], laidTests := true, laidLooks := .later }
def CheckLimitsCardSaid : Prop := Claim7.holds Tryd.pinned (.plain (OpenSpec.ofChange checkLimitsSpec)) checkLimitsCard

/-- THE SECOND FORM's CARD OF 'sibyllaw04.CheckLimits'. -/
def checkLimitsUptoCard : Claim7 := { stood := { row := checkLimitsUptoRow, standIns := [], harness := (true, "1da1495bc493a0d6450d90b8e7e20f958540db425382197cc7c98787e1de8119"), looks := true }, kinds := [], alts := [], laidByText := true, laidKinds := [.data, .data, .data, .widerDeep], laidTests := true, laidLooks := .later }
def CheckLimitsUptoCardSaid : Prop := Claim7.holds Tryd.pinned (.plain (OpenSpec.upto checkLimitsSpec)) checkLimitsUptoCard
end Rows
end Go.Proofs.YtnhghaianccncaaDoor
