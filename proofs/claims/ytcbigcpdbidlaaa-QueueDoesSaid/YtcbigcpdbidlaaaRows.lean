/-
  No cell of these rows narrows 'for every input' (looked for: loops, veiled, ifaces, maps, wideKeys, modest, calm, conditions, laid).
  DERIVED. THE GIVEN ROWS OF THIS SEAT. 12 by the template 'for every input the law returns true; each argument reads behind the call as it read before'; 0 by the template 'total and deterministic' (their statements: YtcbigcpdbidlaaaTotals.lean).
  GIVEN WITH THE SEED: the statements are not yours to turn. If you find one false, say at which input.
  Laid BY PROGRAM, IN A SANDBOX (cutbox-rows.mjs): the forced cells as the released guide's own fill.sh prints them over the translation 780b9b52d9ad0806… (all of the seat's roots in one cut). By AI agents, Wed Nov 11 2026. No macro, syntax, notation, axiom, sorry.
-/
import Derived.Test.YtcbigcpdbidlaaaChecked
import GoSem.Claim
import GoSem.ClaimJoined
import GoSem.ClaimMapViews
import Derived.JoinedTies
import Derived.KernelRfl
namespace Go.Proofs.Ytcbigcpdbidlaaa
/- THE CELL 'sum', in the pinned program and in every row, IS THE sha256 OF THE DUMP (.gsa) THAT YtcbigcpdbidlaaaProg.lean LOADS. Nothing in Lean hashes anything: it is a label: what it is worth is what the hold of that sum in a sandbox is worth. -/
noncomputable def Try.pinned : Pinned := { name := "ytcbigcpdbidlaaa", sum := "780b9b52d9ad0806b56cf4de0eb3a87412c27e2a20c21d1556e6c760dfddf6d0", checked := Try.checked }
namespace Rows
def none {H : Type} : Left H := { results := [], args := [] }

/-- 'sibyllaw11.StoreFull': WHATEVER THE INPUT: true; the input reads as it did. -/
def storeFullSpec : ChangeSpec := { name := "storeFull", fn := fun _ => fun
  | [d1, d2] => { results := [.lit (.bool true)], args := [d1, d2] }
  | _ => none }
def storeFullRow : OpenClaim := { program := "ytcbigcpdbidlaaa", sum := "780b9b52d9ad0806b56cf4de0eb3a87412c27e2a20c21d1556e6c760dfddf6d0", func := "sibyl/sibyllaw11.StoreFull", spec := "storeFull", unfollowed := true, recurses := true, apart := false }
def StoreFullSaid : Prop := storeFullRow.holds Try.pinned (OpenSpec.ofChange storeFullSpec)

/-- ITS FALSE NEIGHBOUR: 'it returns false'. Refute it at one input. -/
def storeFullWrong : ChangeSpec := { name := "storeFull", fn := fun _ => fun
  | [d1, d2] => { results := [.lit (.bool false)], args := [d1, d2] }
  | _ => none }
def StoreFullWrongFalsely : Prop := storeFullRow.holds Try.pinned (OpenSpec.ofChange storeFullWrong)

/-- 'sibyllaw11.StoreOwn': WHATEVER THE INPUT: true; the input reads as it did. -/
def storeOwnSpec : ChangeSpec := { name := "storeOwn", fn := fun _ => fun
  | [d1, d2] => { results := [.lit (.bool true)], args := [d1, d2] }
  | _ => none }
def storeOwnRow : OpenClaim := { program := "ytcbigcpdbidlaaa", sum := "780b9b52d9ad0806b56cf4de0eb3a87412c27e2a20c21d1556e6c760dfddf6d0", func := "sibyl/sibyllaw11.StoreOwn", spec := "storeOwn", unfollowed := true, recurses := true, apart := false }
def StoreOwnSaid : Prop := storeOwnRow.holds Try.pinned (OpenSpec.ofChange storeOwnSpec)

/-- ITS FALSE NEIGHBOUR: 'it returns false'. Refute it at one input. -/
def storeOwnWrong : ChangeSpec := { name := "storeOwn", fn := fun _ => fun
  | [d1, d2] => { results := [.lit (.bool false)], args := [d1, d2] }
  | _ => none }
def StoreOwnWrongFalsely : Prop := storeOwnRow.holds Try.pinned (OpenSpec.ofChange storeOwnWrong)

/-- 'sibyllaw11.StoreTurns': WHATEVER THE INPUT: true; the input reads as it did. -/
def storeTurnsSpec : ChangeSpec := { name := "storeTurns", fn := fun _ => fun
  | [d1, d2] => { results := [.lit (.bool true)], args := [d1, d2] }
  | _ => none }
def storeTurnsRow : OpenClaim := { program := "ytcbigcpdbidlaaa", sum := "780b9b52d9ad0806b56cf4de0eb3a87412c27e2a20c21d1556e6c760dfddf6d0", func := "sibyl/sibyllaw11.StoreTurns", spec := "storeTurns", unfollowed := true, recurses := true, apart := false }
def StoreTurnsSaid : Prop := storeTurnsRow.holds Try.pinned (OpenSpec.ofChange storeTurnsSpec)

/-- ITS FALSE NEIGHBOUR: 'it returns false'. Refute it at one input. -/
def storeTurnsWrong : ChangeSpec := { name := "storeTurns", fn := fun _ => fun
  | [d1, d2] => { results := [.lit (.bool false)], args := [d1, d2] }
  | _ => none }
def StoreTurnsWrongFalsely : Prop := storeTurnsRow.holds Try.pinned (OpenSpec.ofChange storeTurnsWrong)

/-- 'sibyllaw11.StoreCounts': WHATEVER THE INPUT: true; the input reads as it did. -/
def storeCountsSpec : ChangeSpec := { name := "storeCounts", fn := fun _ => fun
  | [d] => { results := [.lit (.bool true)], args := [d] }
  | _ => none }
def storeCountsRow : OpenClaim := { program := "ytcbigcpdbidlaaa", sum := "780b9b52d9ad0806b56cf4de0eb3a87412c27e2a20c21d1556e6c760dfddf6d0", func := "sibyl/sibyllaw11.StoreCounts", spec := "storeCounts", unfollowed := true, recurses := true, apart := false }
def StoreCountsSaid : Prop := storeCountsRow.holds Try.pinned (OpenSpec.ofChange storeCountsSpec)

/-- ITS FALSE NEIGHBOUR: 'it returns false'. Refute it at one input. -/
def storeCountsWrong : ChangeSpec := { name := "storeCounts", fn := fun _ => fun
  | [d] => { results := [.lit (.bool false)], args := [d] }
  | _ => none }
def StoreCountsWrongFalsely : Prop := storeCountsRow.holds Try.pinned (OpenSpec.ofChange storeCountsWrong)

/-- 'sibyllaw11.StorePlays': WHATEVER THE INPUT: true; the input reads as it did. -/
def storePlaysSpec : ChangeSpec := { name := "storePlays", fn := fun _ => fun
  | [d1, d2] => { results := [.lit (.bool true)], args := [d1, d2] }
  | _ => none }
def storePlaysRow : OpenClaim := { program := "ytcbigcpdbidlaaa", sum := "780b9b52d9ad0806b56cf4de0eb3a87412c27e2a20c21d1556e6c760dfddf6d0", func := "sibyl/sibyllaw11.StorePlays", spec := "storePlays", unfollowed := true, recurses := true, apart := false }
def StorePlaysSaid : Prop := storePlaysRow.holds Try.pinned (OpenSpec.ofChange storePlaysSpec)

/-- ITS FALSE NEIGHBOUR: 'it returns false'. Refute it at one input. -/
def storePlaysWrong : ChangeSpec := { name := "storePlays", fn := fun _ => fun
  | [d1, d2] => { results := [.lit (.bool false)], args := [d1, d2] }
  | _ => none }
def StorePlaysWrongFalsely : Prop := storePlaysRow.holds Try.pinned (OpenSpec.ofChange storePlaysWrong)

/-- 'sibyllaw11.StoreNil': WHATEVER THE INPUT: true; the input reads as it did. -/
def storeNilSpec : ChangeSpec := { name := "storeNil", fn := fun _ => fun
  | [d1, d2] => { results := [.lit (.bool true)], args := [d1, d2] }
  | _ => none }
def storeNilRow : OpenClaim := { program := "ytcbigcpdbidlaaa", sum := "780b9b52d9ad0806b56cf4de0eb3a87412c27e2a20c21d1556e6c760dfddf6d0", func := "sibyl/sibyllaw11.StoreNil", spec := "storeNil", unfollowed := true, recurses := true, apart := false }
def StoreNilSaid : Prop := storeNilRow.holds Try.pinned (OpenSpec.ofChange storeNilSpec)

/-- ITS FALSE NEIGHBOUR: 'it returns false'. Refute it at one input. -/
def storeNilWrong : ChangeSpec := { name := "storeNil", fn := fun _ => fun
  | [d1, d2] => { results := [.lit (.bool false)], args := [d1, d2] }
  | _ => none }
def StoreNilWrongFalsely : Prop := storeNilRow.holds Try.pinned (OpenSpec.ofChange storeNilWrong)

/-- 'sibyllaw18.QueueNone': WHATEVER THE INPUT: true; the input reads as it did. -/
def queueNoneSpec : ChangeSpec := { name := "queueNone", fn := fun _ => fun
  | [d1, d2, d3] => { results := [.lit (.bool true)], args := [d1, d2, d3] }
  | _ => none }
def queueNoneRow : OpenClaim := { program := "ytcbigcpdbidlaaa", sum := "780b9b52d9ad0806b56cf4de0eb3a87412c27e2a20c21d1556e6c760dfddf6d0", func := "sibyl/sibyllaw18.QueueNone", spec := "queueNone", unfollowed := true, recurses := true, apart := false }
def QueueNoneSaid : Prop := queueNoneRow.holds Try.pinned (OpenSpec.ofChange queueNoneSpec)

/-- ITS FALSE NEIGHBOUR: 'it returns false'. Refute it at one input. -/
def queueNoneWrong : ChangeSpec := { name := "queueNone", fn := fun _ => fun
  | [d1, d2, d3] => { results := [.lit (.bool false)], args := [d1, d2, d3] }
  | _ => none }
def QueueNoneWrongFalsely : Prop := queueNoneRow.holds Try.pinned (OpenSpec.ofChange queueNoneWrong)

/-- 'sibyllaw18.QueueHolds': WHATEVER THE INPUT: true; the input reads as it did. -/
def queueHoldsSpec : ChangeSpec := { name := "queueHolds", fn := fun _ => fun
  | [d1, d2] => { results := [.lit (.bool true)], args := [d1, d2] }
  | _ => none }
def queueHoldsRow : OpenClaim := { program := "ytcbigcpdbidlaaa", sum := "780b9b52d9ad0806b56cf4de0eb3a87412c27e2a20c21d1556e6c760dfddf6d0", func := "sibyl/sibyllaw18.QueueHolds", spec := "queueHolds", unfollowed := true, recurses := true, apart := false }
def QueueHoldsSaid : Prop := queueHoldsRow.holds Try.pinned (OpenSpec.ofChange queueHoldsSpec)

/-- ITS FALSE NEIGHBOUR: 'it returns false'. Refute it at one input. -/
def queueHoldsWrong : ChangeSpec := { name := "queueHolds", fn := fun _ => fun
  | [d1, d2] => { results := [.lit (.bool false)], args := [d1, d2] }
  | _ => none }
def QueueHoldsWrongFalsely : Prop := queueHoldsRow.holds Try.pinned (OpenSpec.ofChange queueHoldsWrong)

/-- 'sibyllaw18.QueueBound': WHATEVER THE INPUT: true; the input reads as it did. -/
def queueBoundSpec : ChangeSpec := { name := "queueBound", fn := fun _ => fun
  | [d1, d2] => { results := [.lit (.bool true)], args := [d1, d2] }
  | _ => none }
def queueBoundRow : OpenClaim := { program := "ytcbigcpdbidlaaa", sum := "780b9b52d9ad0806b56cf4de0eb3a87412c27e2a20c21d1556e6c760dfddf6d0", func := "sibyl/sibyllaw18.QueueBound", spec := "queueBound", unfollowed := true, recurses := true, apart := false }
def QueueBoundSaid : Prop := queueBoundRow.holds Try.pinned (OpenSpec.ofChange queueBoundSpec)

/-- ITS FALSE NEIGHBOUR: 'it returns false'. Refute it at one input. -/
def queueBoundWrong : ChangeSpec := { name := "queueBound", fn := fun _ => fun
  | [d1, d2] => { results := [.lit (.bool false)], args := [d1, d2] }
  | _ => none }
def QueueBoundWrongFalsely : Prop := queueBoundRow.holds Try.pinned (OpenSpec.ofChange queueBoundWrong)

/-- 'sibyllaw18.QueueApart': WHATEVER THE INPUT: true; the input reads as it did. -/
def queueApartSpec : ChangeSpec := { name := "queueApart", fn := fun _ => fun
  | [d1, d2] => { results := [.lit (.bool true)], args := [d1, d2] }
  | _ => none }
def queueApartRow : OpenClaim := { program := "ytcbigcpdbidlaaa", sum := "780b9b52d9ad0806b56cf4de0eb3a87412c27e2a20c21d1556e6c760dfddf6d0", func := "sibyl/sibyllaw18.QueueApart", spec := "queueApart", unfollowed := true, recurses := true, apart := false }
def QueueApartSaid : Prop := queueApartRow.holds Try.pinned (OpenSpec.ofChange queueApartSpec)

/-- ITS FALSE NEIGHBOUR: 'it returns false'. Refute it at one input. -/
def queueApartWrong : ChangeSpec := { name := "queueApart", fn := fun _ => fun
  | [d1, d2] => { results := [.lit (.bool false)], args := [d1, d2] }
  | _ => none }
def QueueApartWrongFalsely : Prop := queueApartRow.holds Try.pinned (OpenSpec.ofChange queueApartWrong)

/-- 'sibyllaw18.QueueDoes': WHATEVER THE INPUT: true; the input reads as it did. -/
def queueDoesSpec : ChangeSpec := { name := "queueDoes", fn := fun _ => fun
  | [d1, d2] => { results := [.lit (.bool true)], args := [d1, d2] }
  | _ => none }
def queueDoesRow : OpenClaim := { program := "ytcbigcpdbidlaaa", sum := "780b9b52d9ad0806b56cf4de0eb3a87412c27e2a20c21d1556e6c760dfddf6d0", func := "sibyl/sibyllaw18.QueueDoes", spec := "queueDoes", unfollowed := true, recurses := true, apart := false }
def QueueDoesSaid : Prop := queueDoesRow.holds Try.pinned (OpenSpec.ofChange queueDoesSpec)

/-- ITS FALSE NEIGHBOUR: 'it returns false'. Refute it at one input. -/
def queueDoesWrong : ChangeSpec := { name := "queueDoes", fn := fun _ => fun
  | [d1, d2] => { results := [.lit (.bool false)], args := [d1, d2] }
  | _ => none }
def QueueDoesWrongFalsely : Prop := queueDoesRow.holds Try.pinned (OpenSpec.ofChange queueDoesWrong)

/-- 'sibyllaw18.QueueNil': WHATEVER THE INPUT: true; the input reads as it did. -/
def queueNilSpec : ChangeSpec := { name := "queueNil", fn := fun _ => fun
  | [d1, d2] => { results := [.lit (.bool true)], args := [d1, d2] }
  | _ => none }
def queueNilRow : OpenClaim := { program := "ytcbigcpdbidlaaa", sum := "780b9b52d9ad0806b56cf4de0eb3a87412c27e2a20c21d1556e6c760dfddf6d0", func := "sibyl/sibyllaw18.QueueNil", spec := "queueNil", unfollowed := true, recurses := true, apart := false }
def QueueNilSaid : Prop := queueNilRow.holds Try.pinned (OpenSpec.ofChange queueNilSpec)

/-- ITS FALSE NEIGHBOUR: 'it returns false'. Refute it at one input. -/
def queueNilWrong : ChangeSpec := { name := "queueNil", fn := fun _ => fun
  | [d1, d2] => { results := [.lit (.bool false)], args := [d1, d2] }
  | _ => none }
def QueueNilWrongFalsely : Prop := queueNilRow.holds Try.pinned (OpenSpec.ofChange queueNilWrong)

/- THE SECOND FORM. 'bulk': how many values and letters a reading holds, each counted each time it is reached (what is shared counts as often as it is met; a slice's spare places count too). A statement '..UptoSaid' is the law's where the arguments, and the package variables that the reading takes, are together of bulk at most 1048576: NARROWER than '..Said'. Prove '..Said' where nothing that the law and all that it calls make is longer than what came in: it says more and counts as full. Else prove '..UptoSaid'. A law counts once. -/
mutual
def uptoBulk {H : Type} : DataW H → Nat
  | .lit (.string bytes) => bytes.length + 1
  | .lit _ => 1
  | .nil => 1
  | .ptr d => uptoBulk d + 1
  | .slice elems spare => uptoBulkAll elems + uptoBulkAll spare + 1
  | .agg parts => uptoBulkAll parts + 1
  | .iface _ d => uptoBulk d + 1
  | .map entries => uptoBulkEntries entries + 1
  | .held _ => 1
def uptoBulkAll {H : Type} : List (DataW H) → Nat
  | [] => 0
  | d :: r => uptoBulk d + uptoBulkAll r
def uptoBulkEntries {H : Type} : List (Lit × DataW H) → Nat
  | [] => 0
  | x :: r => uptoBulkEntry x + uptoBulkEntries r
def uptoBulkEntry {H : Type} : Lit × DataW H → Nat
  | (.string bytes, d) => bytes.length + uptoBulk d + 1
  | (_, d) => uptoBulk d + 1
 end
def uptoSmall : (H : Type) → List (DataW H) → Bool := fun _ ds => decide (uptoBulkAll ds ≤ 1048576)
def OpenSpec.upto (s : _root_.Go.ChangeSpec) : _root_.Go.OpenSpec := { _root_.Go.OpenSpec.ofChange s with cond := some uptoSmall }

/-- 'sibyllaw11.StoreFull', WHERE WHAT IT READS IS OF BULK AT MOST 1048576: true; the input reads as it did. -/
def storeFullUptoRow : OpenClaim := { program := "ytcbigcpdbidlaaa", sum := "780b9b52d9ad0806b56cf4de0eb3a87412c27e2a20c21d1556e6c760dfddf6d0", func := "sibyl/sibyllaw11.StoreFull", spec := "storeFull", unfollowed := true, recurses := true, apart := false, narrowed := true }
def StoreFullUptoSaid : Prop := storeFullUptoRow.holds Try.pinned (OpenSpec.upto storeFullSpec)

/-- 'sibyllaw11.StoreOwn', WHERE WHAT IT READS IS OF BULK AT MOST 1048576: true; the input reads as it did. -/
def storeOwnUptoRow : OpenClaim := { program := "ytcbigcpdbidlaaa", sum := "780b9b52d9ad0806b56cf4de0eb3a87412c27e2a20c21d1556e6c760dfddf6d0", func := "sibyl/sibyllaw11.StoreOwn", spec := "storeOwn", unfollowed := true, recurses := true, apart := false, narrowed := true }
def StoreOwnUptoSaid : Prop := storeOwnUptoRow.holds Try.pinned (OpenSpec.upto storeOwnSpec)

/-- 'sibyllaw11.StoreTurns', WHERE WHAT IT READS IS OF BULK AT MOST 1048576: true; the input reads as it did. -/
def storeTurnsUptoRow : OpenClaim := { program := "ytcbigcpdbidlaaa", sum := "780b9b52d9ad0806b56cf4de0eb3a87412c27e2a20c21d1556e6c760dfddf6d0", func := "sibyl/sibyllaw11.StoreTurns", spec := "storeTurns", unfollowed := true, recurses := true, apart := false, narrowed := true }
def StoreTurnsUptoSaid : Prop := storeTurnsUptoRow.holds Try.pinned (OpenSpec.upto storeTurnsSpec)

/-- 'sibyllaw11.StoreCounts', WHERE WHAT IT READS IS OF BULK AT MOST 1048576: true; the input reads as it did. -/
def storeCountsUptoRow : OpenClaim := { program := "ytcbigcpdbidlaaa", sum := "780b9b52d9ad0806b56cf4de0eb3a87412c27e2a20c21d1556e6c760dfddf6d0", func := "sibyl/sibyllaw11.StoreCounts", spec := "storeCounts", unfollowed := true, recurses := true, apart := false, narrowed := true }
def StoreCountsUptoSaid : Prop := storeCountsUptoRow.holds Try.pinned (OpenSpec.upto storeCountsSpec)

/-- 'sibyllaw11.StorePlays', WHERE WHAT IT READS IS OF BULK AT MOST 1048576: true; the input reads as it did. -/
def storePlaysUptoRow : OpenClaim := { program := "ytcbigcpdbidlaaa", sum := "780b9b52d9ad0806b56cf4de0eb3a87412c27e2a20c21d1556e6c760dfddf6d0", func := "sibyl/sibyllaw11.StorePlays", spec := "storePlays", unfollowed := true, recurses := true, apart := false, narrowed := true }
def StorePlaysUptoSaid : Prop := storePlaysUptoRow.holds Try.pinned (OpenSpec.upto storePlaysSpec)

/-- 'sibyllaw11.StoreNil', WHERE WHAT IT READS IS OF BULK AT MOST 1048576: true; the input reads as it did. -/
def storeNilUptoRow : OpenClaim := { program := "ytcbigcpdbidlaaa", sum := "780b9b52d9ad0806b56cf4de0eb3a87412c27e2a20c21d1556e6c760dfddf6d0", func := "sibyl/sibyllaw11.StoreNil", spec := "storeNil", unfollowed := true, recurses := true, apart := false, narrowed := true }
def StoreNilUptoSaid : Prop := storeNilUptoRow.holds Try.pinned (OpenSpec.upto storeNilSpec)

/-- 'sibyllaw18.QueueNone', WHERE WHAT IT READS IS OF BULK AT MOST 1048576: true; the input reads as it did. -/
def queueNoneUptoRow : OpenClaim := { program := "ytcbigcpdbidlaaa", sum := "780b9b52d9ad0806b56cf4de0eb3a87412c27e2a20c21d1556e6c760dfddf6d0", func := "sibyl/sibyllaw18.QueueNone", spec := "queueNone", unfollowed := true, recurses := true, apart := false, narrowed := true }
def QueueNoneUptoSaid : Prop := queueNoneUptoRow.holds Try.pinned (OpenSpec.upto queueNoneSpec)

/-- 'sibyllaw18.QueueHolds', WHERE WHAT IT READS IS OF BULK AT MOST 1048576: true; the input reads as it did. -/
def queueHoldsUptoRow : OpenClaim := { program := "ytcbigcpdbidlaaa", sum := "780b9b52d9ad0806b56cf4de0eb3a87412c27e2a20c21d1556e6c760dfddf6d0", func := "sibyl/sibyllaw18.QueueHolds", spec := "queueHolds", unfollowed := true, recurses := true, apart := false, narrowed := true }
def QueueHoldsUptoSaid : Prop := queueHoldsUptoRow.holds Try.pinned (OpenSpec.upto queueHoldsSpec)

/-- 'sibyllaw18.QueueBound', WHERE WHAT IT READS IS OF BULK AT MOST 1048576: true; the input reads as it did. -/
def queueBoundUptoRow : OpenClaim := { program := "ytcbigcpdbidlaaa", sum := "780b9b52d9ad0806b56cf4de0eb3a87412c27e2a20c21d1556e6c760dfddf6d0", func := "sibyl/sibyllaw18.QueueBound", spec := "queueBound", unfollowed := true, recurses := true, apart := false, narrowed := true }
def QueueBoundUptoSaid : Prop := queueBoundUptoRow.holds Try.pinned (OpenSpec.upto queueBoundSpec)

/-- 'sibyllaw18.QueueApart', WHERE WHAT IT READS IS OF BULK AT MOST 1048576: true; the input reads as it did. -/
def queueApartUptoRow : OpenClaim := { program := "ytcbigcpdbidlaaa", sum := "780b9b52d9ad0806b56cf4de0eb3a87412c27e2a20c21d1556e6c760dfddf6d0", func := "sibyl/sibyllaw18.QueueApart", spec := "queueApart", unfollowed := true, recurses := true, apart := false, narrowed := true }
def QueueApartUptoSaid : Prop := queueApartUptoRow.holds Try.pinned (OpenSpec.upto queueApartSpec)

/-- 'sibyllaw18.QueueDoes', WHERE WHAT IT READS IS OF BULK AT MOST 1048576: true; the input reads as it did. -/
def queueDoesUptoRow : OpenClaim := { program := "ytcbigcpdbidlaaa", sum := "780b9b52d9ad0806b56cf4de0eb3a87412c27e2a20c21d1556e6c760dfddf6d0", func := "sibyl/sibyllaw18.QueueDoes", spec := "queueDoes", unfollowed := true, recurses := true, apart := false, narrowed := true }
def QueueDoesUptoSaid : Prop := queueDoesUptoRow.holds Try.pinned (OpenSpec.upto queueDoesSpec)

/-- 'sibyllaw18.QueueNil', WHERE WHAT IT READS IS OF BULK AT MOST 1048576: true; the input reads as it did. -/
def queueNilUptoRow : OpenClaim := { program := "ytcbigcpdbidlaaa", sum := "780b9b52d9ad0806b56cf4de0eb3a87412c27e2a20c21d1556e6c760dfddf6d0", func := "sibyl/sibyllaw18.QueueNil", spec := "queueNil", unfollowed := true, recurses := true, apart := false, narrowed := true }
def QueueNilUptoSaid : Prop := queueNilUptoRow.holds Try.pinned (OpenSpec.upto queueNilSpec)

end Rows
end Go.Proofs.Ytcbigcpdbidlaaa
