/-
  No cell of these rows narrows 'for every input' (looked for: loops, veiled, ifaces, maps, wideKeys, modest, calm, conditions, laid).
  DERIVED. THE GIVEN ROWS OF THIS SEAT. 3 by the template 'for every input the law returns true; each argument reads behind the call as it read before'; 0 by the template 'total and deterministic' (their statements: YtnlljhonfklalaaGreatTotals.lean).
  GIVEN WITH THE SEED: the statements are not yours to turn. If you find one false, say at which input.
  Laid BY PROGRAM, IN A SANDBOX (cutbox-rows.mjs): the forced cells as the released guide's own fill.sh prints them over the translation 300987ee93380a31… (all of the seat's roots in one cut). By AI agents, Wed Nov 11 2026. No macro, syntax, notation, axiom, sorry.
-/
import Derived.Test.YtnlljhonfklalaaGreatChecked
import GoSem.Claim
import GoSem.ClaimJoined
import GoSem.ClaimMapViews
import Derived.JoinedTies
import Derived.KernelRfl
namespace Go.Proofs.YtnlljhonfklalaaGreat
/- THE CELL 'sum', in the pinned program and in every row, IS THE sha256 OF THE DUMP (.gsa) THAT YtnlljhonfklalaaGreatProg.lean LOADS. Nothing in Lean hashes anything: it is a label: what it is worth is what the hold of that sum in a sandbox is worth. -/
noncomputable def Tryz.pinned : Pinned := { name := "ytnlljhonfklalaagreat", sum := "300987ee93380a317cf5259643df554edf202c6859deed8502f93b6b31f56479", checked := Tryz.checked }
namespace Rows
def none {H : Type} : Left H := { results := [], args := [] }

/-- 'sibyllaw21.WorkerLeaves': WHATEVER THE INPUT: true; the input reads as it did. -/
def workerLeavesSpec : ChangeSpec := { name := "workerLeaves", fn := fun _ => fun
  | [d1, d2] => { results := [.lit (.bool true)], args := [d1, d2] }
  | _ => none }
def workerLeavesRow : OpenClaim := { program := "ytnlljhonfklalaagreat", sum := "300987ee93380a317cf5259643df554edf202c6859deed8502f93b6b31f56479", func := "sibyl/sibyllaw21.WorkerLeaves", spec := "workerLeaves", unfollowed := true, recurses := true, apart := false }
def WorkerLeavesSaid : Prop := workerLeavesRow.holds Tryz.pinned (OpenSpec.ofChange workerLeavesSpec)

/-- ITS FALSE NEIGHBOUR: 'it returns false'. Refute it at one input. -/
def workerLeavesWrong : ChangeSpec := { name := "workerLeaves", fn := fun _ => fun
  | [d1, d2] => { results := [.lit (.bool false)], args := [d1, d2] }
  | _ => none }
def WorkerLeavesWrongFalsely : Prop := workerLeavesRow.holds Tryz.pinned (OpenSpec.ofChange workerLeavesWrong)

/-- 'sibyllaw21.WorkerNil': WHATEVER THE INPUT: true; the input reads as it did. -/
def workerNilSpec : ChangeSpec := { name := "workerNil", fn := fun _ => fun
  | [d] => { results := [.lit (.bool true)], args := [d] }
  | _ => none }
def workerNilRow : OpenClaim := { program := "ytnlljhonfklalaagreat", sum := "300987ee93380a317cf5259643df554edf202c6859deed8502f93b6b31f56479", func := "sibyl/sibyllaw21.WorkerNil", spec := "workerNil", unfollowed := true, recurses := true, apart := false }
def WorkerNilSaid : Prop := workerNilRow.holds Tryz.pinned (OpenSpec.ofChange workerNilSpec)

/-- ITS FALSE NEIGHBOUR: 'it returns false'. Refute it at one input. -/
def workerNilWrong : ChangeSpec := { name := "workerNil", fn := fun _ => fun
  | [d] => { results := [.lit (.bool false)], args := [d] }
  | _ => none }
def WorkerNilWrongFalsely : Prop := workerNilRow.holds Tryz.pinned (OpenSpec.ofChange workerNilWrong)

/-- 'sibyllaw22.MergerNil': WHATEVER THE INPUT: true; the input reads as it did. -/
def mergerNilSpec : ChangeSpec := { name := "mergerNil", fn := fun _ => fun
  | [d] => { results := [.lit (.bool true)], args := [d] }
  | _ => none }
def mergerNilRow : OpenClaim := { program := "ytnlljhonfklalaagreat", sum := "300987ee93380a317cf5259643df554edf202c6859deed8502f93b6b31f56479", func := "sibyl/sibyllaw22.MergerNil", spec := "mergerNil", unfollowed := true, recurses := true, apart := false }
def MergerNilSaid : Prop := mergerNilRow.holds Tryz.pinned (OpenSpec.ofChange mergerNilSpec)

/-- ITS FALSE NEIGHBOUR: 'it returns false'. Refute it at one input. -/
def mergerNilWrong : ChangeSpec := { name := "mergerNil", fn := fun _ => fun
  | [d] => { results := [.lit (.bool false)], args := [d] }
  | _ => none }
def MergerNilWrongFalsely : Prop := mergerNilRow.holds Tryz.pinned (OpenSpec.ofChange mergerNilWrong)

/- THE SECOND FORM. 'bulk': how many values and letters a reading holds, each counted each time it is reached (what is shared counts as often as it is met; a slice's spare places count too). A statement '..UptoSaid' is the law's where the arguments, and the package variables that the reading takes, are together of bulk at most 1048576: NARROWER than '..Said'. Prove '..Said' where nothing that the law and all that it calls make is longer than what came in: it says more and counts as full. Else prove '..UptoSaid'. A law counts once. -/
mutual
def uptoBulk {H : Type} : DataW H → Nat
  | .lit (.string bytes) => bytes.length + 1
  | .lit _ => 1
  | .nil => 1
  | .ptr d => uptoBulk d + 1
  | .slice elems spare => uptoBulkAll elems + uptoBulkAll spare + 1
  | .agg parts => uptoBulkAll parts + 1
  | .iface _ d => uptoBulk d + 1
  | .map entries => uptoBulkEntries entries + 1
  | .held _ => 1
def uptoBulkAll {H : Type} : List (DataW H) → Nat
  | [] => 0
  | d :: r => uptoBulk d + uptoBulkAll r
def uptoBulkEntries {H : Type} : List (Lit × DataW H) → Nat
  | [] => 0
  | x :: r => uptoBulkEntry x + uptoBulkEntries r
def uptoBulkEntry {H : Type} : Lit × DataW H → Nat
  | (.string bytes, d) => bytes.length + uptoBulk d + 1
  | (_, d) => uptoBulk d + 1
 end
def uptoSmall : (H : Type) → List (DataW H) → Bool := fun _ ds => decide (uptoBulkAll ds ≤ 1048576)
def OpenSpec.upto (s : _root_.Go.ChangeSpec) : _root_.Go.OpenSpec := { _root_.Go.OpenSpec.ofChange s with cond := some uptoSmall }

/-- 'sibyllaw21.WorkerLeaves', WHERE WHAT IT READS IS OF BULK AT MOST 1048576: true; the input reads as it did. -/
def workerLeavesUptoRow : OpenClaim := { program := "ytnlljhonfklalaagreat", sum := "300987ee93380a317cf5259643df554edf202c6859deed8502f93b6b31f56479", func := "sibyl/sibyllaw21.WorkerLeaves", spec := "workerLeaves", unfollowed := true, recurses := true, apart := false, narrowed := true }
def WorkerLeavesUptoSaid : Prop := workerLeavesUptoRow.holds Tryz.pinned (OpenSpec.upto workerLeavesSpec)

/-- 'sibyllaw21.WorkerNil', WHERE WHAT IT READS IS OF BULK AT MOST 1048576: true; the input reads as it did. -/
def workerNilUptoRow : OpenClaim := { program := "ytnlljhonfklalaagreat", sum := "300987ee93380a317cf5259643df554edf202c6859deed8502f93b6b31f56479", func := "sibyl/sibyllaw21.WorkerNil", spec := "workerNil", unfollowed := true, recurses := true, apart := false, narrowed := true }
def WorkerNilUptoSaid : Prop := workerNilUptoRow.holds Tryz.pinned (OpenSpec.upto workerNilSpec)

/-- 'sibyllaw22.MergerNil', WHERE WHAT IT READS IS OF BULK AT MOST 1048576: true; the input reads as it did. -/
def mergerNilUptoRow : OpenClaim := { program := "ytnlljhonfklalaagreat", sum := "300987ee93380a317cf5259643df554edf202c6859deed8502f93b6b31f56479", func := "sibyl/sibyllaw22.MergerNil", spec := "mergerNil", unfollowed := true, recurses := true, apart := false, narrowed := true }
def MergerNilUptoSaid : Prop := mergerNilUptoRow.holds Tryz.pinned (OpenSpec.upto mergerNilSpec)

end Rows
end Go.Proofs.YtnlljhonfklalaaGreat
