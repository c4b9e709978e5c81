/-
  DERIVED. GIVEN WITH THE SEED: THE CARDS: each row of YtfdghdmdjfgjiaaGreatDoorRows.lean that lists a variable, with what it lists TIED to the program's text (the seventh form; the later family's looks); each row that meets fmt, with fmt's text TOLD by the authors' own Lean function (tested against real Go, not proved from fmt's source: count such statements apart). THE CARD IS WHAT COUNTS. Prove the row's statement (the work); the ties are given (YtfdghdmdjfgjiaaGreatDoorTie.lean); close each card by the builder's one call (the guide's Derived/Test/ToyasCard.lean, 'card_holds'). Laid BY PROGRAM, IN A SANDBOX (cutbox-door.mjs). By AI agents, Wed Nov 11 2026. No macro, syntax, notation, axiom, sorry.
-/
import Derived.Test.YtfdghdmdjfgjiaaGreatDoorRows
import GoSem.ClaimSeven
namespace Go.Proofs.YtfdghdmdjfgjiaaGreatDoor
namespace Rows

/-- THE TIED CARD OF 'sibyllaw20.ClientNil'. -/
def clientNilCard : Claim7 := { stood := { row := clientNilRow, standIns := [], harness := (true, "860949f86689f1d8fadb9eb2d0a9ff7ad4e7a3134f80521751d0ce58f0ce9491"), looks := true }, kinds := [], alts := [], laidByText := true, laidKinds := [.data, .data, .data, .widerDeep], laidTests := true, laidLooks := .later }
def ClientNilCardSaid : Prop := Claim7.holds Tryz.pinned (.plain (OpenSpec.ofChange clientNilSpec)) clientNilCard

/-- THE TIED CARD OF 'sibyllaw20.ClientRetry'. -/
def clientRetryCard : Claim7 := { stood := { row := clientRetryRow, standIns := [], harness := (true, "860949f86689f1d8fadb9eb2d0a9ff7ad4e7a3134f80521751d0ce58f0ce9491"), looks := true }, kinds := [], alts := [], laidByText := true, laidKinds := [.data, .data, .data, .widerDeep], laidTests := true, laidLooks := .later }
def ClientRetryCardSaid : Prop := Claim7.holds Tryz.pinned (.plain (OpenSpec.ofChange clientRetrySpec)) clientRetryCard

/-- THE TIED CARD OF 'sibyllaw20.ClientOne'. -/
def clientOneCard : Claim7 := { stood := { row := clientOneRow, standIns := [], harness := (true, "860949f86689f1d8fadb9eb2d0a9ff7ad4e7a3134f80521751d0ce58f0ce9491"), looks := true }, kinds := [], alts := [], laidByText := true, laidKinds := [.data, .data, .data, .widerDeep], laidTests := true, laidLooks := .later }
def ClientOneCardSaid : Prop := Claim7.holds Tryz.pinned (.plain (OpenSpec.ofChange clientOneSpec)) clientOneCard

/-- THE SECOND FORM's CARD OF 'sibyllaw20.ClientNil'. -/
def clientNilUptoCard : Claim7 := { stood := { row := clientNilUptoRow, standIns := [], harness := (true, "860949f86689f1d8fadb9eb2d0a9ff7ad4e7a3134f80521751d0ce58f0ce9491"), looks := true }, kinds := [], alts := [], laidByText := true, laidKinds := [.data, .data, .data, .widerDeep], laidTests := true, laidLooks := .later }
def ClientNilUptoCardSaid : Prop := Claim7.holds Tryz.pinned (.plain (OpenSpec.upto clientNilSpec)) clientNilUptoCard

/-- THE SECOND FORM's CARD OF 'sibyllaw20.ClientRetry'. -/
def clientRetryUptoCard : Claim7 := { stood := { row := clientRetryUptoRow, standIns := [], harness := (true, "860949f86689f1d8fadb9eb2d0a9ff7ad4e7a3134f80521751d0ce58f0ce9491"), looks := true }, kinds := [], alts := [], laidByText := true, laidKinds := [.data, .data, .data, .widerDeep], laidTests := true, laidLooks := .later }
def ClientRetryUptoCardSaid : Prop := Claim7.holds Tryz.pinned (.plain (OpenSpec.upto clientRetrySpec)) clientRetryUptoCard

/-- THE SECOND FORM's CARD OF 'sibyllaw20.ClientOne'. -/
def clientOneUptoCard : Claim7 := { stood := { row := clientOneUptoRow, standIns := [], harness := (true, "860949f86689f1d8fadb9eb2d0a9ff7ad4e7a3134f80521751d0ce58f0ce9491"), looks := true }, kinds := [], alts := [], laidByText := true, laidKinds := [.data, .data, .data, .widerDeep], laidTests := true, laidLooks := .later }
def ClientOneUptoCardSaid : Prop := Claim7.holds Tryz.pinned (.plain (OpenSpec.upto clientOneSpec)) clientOneUptoCard
end Rows
end Go.Proofs.YtfdghdmdjfgjiaaGreatDoor
