/-
  No cell of these rows narrows 'for every input' (looked for: loops, veiled, ifaces, maps, wideKeys, modest, calm, conditions, laid).
  DERIVED. THE GIVEN ROWS OF THIS SEAT. 2 by the template 'for every input the law returns true; each argument reads behind the call as it read before'; 0 by the template 'total and deterministic' (their statements: YtcfbgnhiojbobaaGreatTotals.lean).
  GIVEN WITH THE SEED: the statements are not yours to turn. If you find one false, say at which input.
  Laid BY PROGRAM, IN A SANDBOX (cutbox-rows.mjs): the forced cells as the released guide's own fill.sh prints them over the translation 3f7fccbaa05f9908… (all of the seat's roots in one cut). By AI agents, Wed Nov 11 2026. No macro, syntax, notation, axiom, sorry.
-/
import Derived.Test.YtcfbgnhiojbobaaGreatChecked
import GoSem.Claim
import GoSem.ClaimJoined
import GoSem.ClaimMapViews
import Derived.JoinedTies
import Derived.KernelRfl
namespace Go.Proofs.YtcfbgnhiojbobaaGreat
/- THE CELL 'sum', in the pinned program and in every row, IS THE sha256 OF THE DUMP (.gsa) THAT YtcfbgnhiojbobaaGreatProg.lean LOADS. Nothing in Lean hashes anything: it is a label: what it is worth is what the hold of that sum in a sandbox is worth. -/
noncomputable def Tryz.pinned : Pinned := { name := "ytcfbgnhiojbobaagreat", sum := "3f7fccbaa05f9908c50e2ed31d41eefc727f3cea30e482d74e2e6c0fd6cdd0dc", checked := Tryz.checked }
namespace Rows
def none {H : Type} : Left H := { results := [], args := [] }

/-- 'sibyllaw14.RunsNil': WHATEVER THE INPUT: true; the input reads as it did. -/
def runsNilSpec : ChangeSpec := { name := "runsNil", fn := fun _ => fun
  | [d1, d2] => { results := [.lit (.bool true)], args := [d1, d2] }
  | _ => none }
def runsNilRow : OpenClaim := { program := "ytcfbgnhiojbobaagreat", sum := "3f7fccbaa05f9908c50e2ed31d41eefc727f3cea30e482d74e2e6c0fd6cdd0dc", func := "sibyl/sibyllaw14.RunsNil", spec := "runsNil", unfollowed := true, recurses := true, apart := false }
def RunsNilSaid : Prop := runsNilRow.holds Tryz.pinned (OpenSpec.ofChange runsNilSpec)

/-- ITS FALSE NEIGHBOUR: 'it returns false'. Refute it at one input. -/
def runsNilWrong : ChangeSpec := { name := "runsNil", fn := fun _ => fun
  | [d1, d2] => { results := [.lit (.bool false)], args := [d1, d2] }
  | _ => none }
def RunsNilWrongFalsely : Prop := runsNilRow.holds Tryz.pinned (OpenSpec.ofChange runsNilWrong)

/-- 'sibyllaw17.ShardNil': WHATEVER THE INPUT: true; the input reads as it did. -/
def shardNilSpec : ChangeSpec := { name := "shardNil", fn := fun _ => fun
  | [d1, d2] => { results := [.lit (.bool true)], args := [d1, d2] }
  | _ => none }
def shardNilRow : OpenClaim := { program := "ytcfbgnhiojbobaagreat", sum := "3f7fccbaa05f9908c50e2ed31d41eefc727f3cea30e482d74e2e6c0fd6cdd0dc", func := "sibyl/sibyllaw17.ShardNil", spec := "shardNil", unfollowed := true, recurses := true, apart := false }
def ShardNilSaid : Prop := shardNilRow.holds Tryz.pinned (OpenSpec.ofChange shardNilSpec)

/-- ITS FALSE NEIGHBOUR: 'it returns false'. Refute it at one input. -/
def shardNilWrong : ChangeSpec := { name := "shardNil", fn := fun _ => fun
  | [d1, d2] => { results := [.lit (.bool false)], args := [d1, d2] }
  | _ => none }
def ShardNilWrongFalsely : Prop := shardNilRow.holds Tryz.pinned (OpenSpec.ofChange shardNilWrong)

/- THE SECOND FORM. 'bulk': how many values and letters a reading holds, each counted each time it is reached (what is shared counts as often as it is met; a slice's spare places count too). A statement '..UptoSaid' is the law's where the arguments, and the package variables that the reading takes, are together of bulk at most 1048576: NARROWER than '..Said'. Prove '..Said' where nothing that the law and all that it calls make is longer than what came in: it says more and counts as full. Else prove '..UptoSaid'. A law counts once. -/
mutual
def uptoBulk {H : Type} : DataW H → Nat
  | .lit (.string bytes) => bytes.length + 1
  | .lit _ => 1
  | .nil => 1
  | .ptr d => uptoBulk d + 1
  | .slice elems spare => uptoBulkAll elems + uptoBulkAll spare + 1
  | .agg parts => uptoBulkAll parts + 1
  | .iface _ d => uptoBulk d + 1
  | .map entries => uptoBulkEntries entries + 1
  | .held _ => 1
def uptoBulkAll {H : Type} : List (DataW H) → Nat
  | [] => 0
  | d :: r => uptoBulk d + uptoBulkAll r
def uptoBulkEntries {H : Type} : List (Lit × DataW H) → Nat
  | [] => 0
  | x :: r => uptoBulkEntry x + uptoBulkEntries r
def uptoBulkEntry {H : Type} : Lit × DataW H → Nat
  | (.string bytes, d) => bytes.length + uptoBulk d + 1
  | (_, d) => uptoBulk d + 1
 end
def uptoSmall : (H : Type) → List (DataW H) → Bool := fun _ ds => decide (uptoBulkAll ds ≤ 1048576)
def OpenSpec.upto (s : _root_.Go.ChangeSpec) : _root_.Go.OpenSpec := { _root_.Go.OpenSpec.ofChange s with cond := some uptoSmall }

/-- 'sibyllaw14.RunsNil', WHERE WHAT IT READS IS OF BULK AT MOST 1048576: true; the input reads as it did. -/
def runsNilUptoRow : OpenClaim := { program := "ytcfbgnhiojbobaagreat", sum := "3f7fccbaa05f9908c50e2ed31d41eefc727f3cea30e482d74e2e6c0fd6cdd0dc", func := "sibyl/sibyllaw14.RunsNil", spec := "runsNil", unfollowed := true, recurses := true, apart := false, narrowed := true }
def RunsNilUptoSaid : Prop := runsNilUptoRow.holds Tryz.pinned (OpenSpec.upto runsNilSpec)

/-- 'sibyllaw17.ShardNil', WHERE WHAT IT READS IS OF BULK AT MOST 1048576: true; the input reads as it did. -/
def shardNilUptoRow : OpenClaim := { program := "ytcfbgnhiojbobaagreat", sum := "3f7fccbaa05f9908c50e2ed31d41eefc727f3cea30e482d74e2e6c0fd6cdd0dc", func := "sibyl/sibyllaw17.ShardNil", spec := "shardNil", unfollowed := true, recurses := true, apart := false, narrowed := true }
def ShardNilUptoSaid : Prop := shardNilUptoRow.holds Tryz.pinned (OpenSpec.upto shardNilSpec)

end Rows
end Go.Proofs.YtcfbgnhiojbobaaGreat
