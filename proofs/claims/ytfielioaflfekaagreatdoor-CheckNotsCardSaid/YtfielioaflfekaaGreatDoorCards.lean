/-
  DERIVED. GIVEN WITH THE SEED: THE CARDS: each row of YtfielioaflfekaaGreatDoorRows.lean that lists a variable, with what it lists TIED to the program's text (the seventh form; the later family's looks); each row that meets fmt, with fmt's text TOLD by the authors' own Lean function (tested against real Go, not proved from fmt's source: count such statements apart). THE CARD IS WHAT COUNTS. Prove the row's statement (the work); the ties are given (YtfielioaflfekaaGreatDoorTie.lean); close each card by the builder's one call (the guide's Derived/Test/ToyasCard.lean, 'card_holds'). Laid BY PROGRAM, IN A SANDBOX (cutbox-door.mjs). By AI agents, Wed Nov 11 2026. No macro, syntax, notation, axiom, sorry.
-/
import Derived.Test.YtfielioaflfekaaGreatDoorRows
import GoSem.ClaimSeven
namespace Go.Proofs.YtfielioaflfekaaGreatDoor
namespace Rows

/-- THE TIED CARD OF 'sibyllaw04.CheckNots'. -/
def checkNotsCard : Claim7 := { stood := { row := checkNotsRow, standIns := [], harness := (true, "ee71f793885a8d9c402f1bfd4f712483e22fc6811fa5a1e690e054a77c6fdad7"), looks := true }, kinds := [], alts := [], laidByText := true, laidKinds := [.data, .data, .data, .widerDeep], laidTests := true, laidLooks := .later }
def CheckNotsCardSaid : Prop := Claim7.holds Tryz.pinned (.plain (OpenSpec.ofChange checkNotsSpec)) checkNotsCard

/-- THE SECOND FORM's CARD OF 'sibyllaw04.CheckNots'. -/
def checkNotsUptoCard : Claim7 := { stood := { row := checkNotsUptoRow, standIns := [], harness := (true, "ee71f793885a8d9c402f1bfd4f712483e22fc6811fa5a1e690e054a77c6fdad7"), looks := true }, kinds := [], alts := [], laidByText := true, laidKinds := [.data, .data, .data, .widerDeep], laidTests := true, laidLooks := .later }
def CheckNotsUptoCardSaid : Prop := Claim7.holds Tryz.pinned (.plain (OpenSpec.upto checkNotsSpec)) checkNotsUptoCard
end Rows
end Go.Proofs.YtfielioaflfekaaGreatDoor
