/- The law 'RunsNil' returns true for every input, and every argument reads as it did. No condition. -/
import Derived.Test.YtlpdigdeplaffaaGreatBind
import Derived.Test.YtlpdigdeplaffaaGreatNil
namespace Go.Proofs.YtlpdigdeplaffaaGreat.runsNil
open Go Dk Dk.U Go.ChangeShapes Go.WideShapes Go.ChangeAt Go.RowKit

theorem own : ownKnob Tryz.prog.godebug = none := by kernel_rfl
theorem laid : laidOutB Tryz.prog = true := by kernel_rfl
theorem reads : (Tryz.f3.params.toList.all fun t => Tryz.prog.readableRec t && decide (t < Tryz.prog.types.size)) = true := by kernel_rfl
theorem kinds : mapO (ltOf Tryz.prog 40) Tryz.f3.params.toList = some [([.int .i64], false), ([.int .i64, .int .i64, .int .i64, .int .i64, .int .i64, .int .i64], true)] := by kernel_rfl
theorem result : Tryz.f3.resultTypes = #[4] := by kernel_rfl

set_option maxRecDepth 100000 in
theorem lifted (os : Os) (started : os.Started) (H : Type) (enc : TypeId × Value → H) :
    ReturnsInHanded {} Tryz.checked os 3 .any (Rows.runsNilSpec.pre6 enc Tryz.prog Tryz.f3 Rows.runsNilRow.domain false) (Rows.runsNilSpec.post enc Tryz.prog Tryz.f3 false true false false) := by
  refine returnsInHanded_of_change (C := Tryz.checked) own started (by kernel_rfl) Tryz.func3
    (ChangeSpec.witness6 (enc := enc) (C := Tryz.checked) false ⟨#[], #[.int .i64 0, .agg #[.int .i64 0, .int .i64 0, .int .i64 0, .int .i64 0, .int .i64 0, .int .i64 0]], []⟩ 8 (by kernel_rfl) (by kernel_rfl) (by kernel_rfl) (by kernel_rfl)) ?_
  intro W base args ds gs before hval hW _ _
  obtain ⟨hlen, hcalls⟩ := law_calls (base := base) (enc := enc) bind.callOK Tryz.func3 (by kernel_rfl) (by kernel_rfl) kinds runsNil_D hW.choose_spec.choose_spec.1 hval (fun n cs h => by cases h)
  refine hcalls.mono fun e W' ⟨he, hb⟩ => ?_
  subst he
  refine ⟨_, rfl, law_post laid reads result Tryz.underlying4 rfl hW (fun hg => ?_) hb⟩
  subst hg
  rw [List.append_nil]
  match ds, hlen with
  | [_, _], _ => rfl

theorem over : Rows.runsNilRow.holds Tryz.pinned (OpenSpec.ofChange Rows.runsNilSpec) :=
  OpenClaim.holds_of_wide 3 Tryz.f3 rfl rfl rfl rfl rfl rfl rfl ⟨rfl, rfl, rfl, rfl, rfl⟩ rfl rfl rfl rfl rfl (by kernel_rfl) Tryz.func3 (by kernel_rfl)
    (of_decide_eq_true (by kernel_rfl)) (by unfold Func.isWrapper; first | (rw [if_pos (by decide +kernel)]; kernel_rfl) | (rw [if_neg (by decide +kernel)]; exact ⟨rfl, rfl⟩))
    (fun os started H enc _ => lifted os started H enc)

theorem proved : Rows.RunsNilSaid :=
  over
#print axioms proved
end Go.Proofs.YtlpdigdeplaffaaGreat.runsNil
