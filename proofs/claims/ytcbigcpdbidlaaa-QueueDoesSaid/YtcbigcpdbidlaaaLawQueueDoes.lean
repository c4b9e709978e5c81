/- The law 'QueueDoes' returns true for every input, and every argument reads as it did. No condition. -/
import Derived.Test.YtcbigcpdbidlaaaBind
import Derived.Test.YtcbigcpdbidlaaaDos
namespace Go.Proofs.Ytcbigcpdbidlaaa.queueDoes
open Go Dk Dk.Q Go.ChangeShapes Go.WideShapes Go.ChangeAt Go.RowKit

theorem own : ownKnob Try.prog.godebug = none := by kernel_rfl
theorem laid : laidOutB Try.prog = true := by kernel_rfl
theorem reads : (Try.f13.params.toList.all fun t => Try.prog.readableRec t && decide (t < Try.prog.types.size)) = true := by kernel_rfl
theorem kinds : mapO (ltOf Try.prog 40) Try.f13.params.toList = some [([.int .i64, .int .i64], true), ([.slice [.int .i64, .int .i64, .int .i64, .slice [.int .i64] false, .slice [.int .i64] false, .int .i64] true], false)] := by kernel_rfl
theorem result : Try.f13.resultTypes = #[4] := by kernel_rfl

set_option maxRecDepth 100000 in
theorem lifted (os : Os) (started : os.Started) (H : Type) (enc : TypeId × Value → H) :
    ReturnsInHanded {} Try.checked os 13 .any (Rows.queueDoesSpec.pre6 enc Try.prog Try.f13 Rows.queueDoesRow.domain false) (Rows.queueDoesSpec.post enc Try.prog Try.f13 false true false false) := by
  refine returnsInHanded_of_change (C := Try.checked) own started (by kernel_rfl) Try.func13
    (ChangeSpec.witness6 (enc := enc) (C := Try.checked) false ⟨#[], #[.agg #[.int .i64 0, .int .i64 0], .slice none 0 0], []⟩ 8 (by kernel_rfl) (by kernel_rfl) (by kernel_rfl) (by kernel_rfl)) ?_
  intro W base args ds gs before hval hW _ _
  obtain ⟨hlen, hcalls⟩ := law_calls (base := base) (enc := enc) bind.callOK Try.func13 (by kernel_rfl) (by kernel_rfl) kinds queueDoes_D hW.choose_spec.choose_spec.1 hval (fun n cs h => by cases h)
  refine hcalls.mono fun e W' ⟨he, hb⟩ => ?_
  subst he
  refine ⟨_, rfl, law_post laid reads result Try.underlying4 rfl hW (fun hg => ?_) hb⟩
  subst hg
  rw [List.append_nil]
  match ds, hlen with
  | [_, _], _ => rfl

theorem over : Rows.queueDoesRow.holds Try.pinned (OpenSpec.ofChange Rows.queueDoesSpec) :=
  OpenClaim.holds_of_wide 13 Try.f13 rfl rfl rfl rfl rfl rfl rfl ⟨rfl, rfl, rfl, rfl, rfl⟩ rfl rfl rfl rfl rfl (by kernel_rfl) Try.func13 (by kernel_rfl)
    (of_decide_eq_true (by kernel_rfl)) (by unfold Func.isWrapper; first | (rw [if_pos (by decide +kernel)]; kernel_rfl) | (rw [if_neg (by decide +kernel)]; exact ⟨rfl, rfl⟩))
    (fun os started H enc _ => lifted os started H enc)

theorem proved : Rows.QueueDoesSaid :=
  over
#print axioms proved
end Go.Proofs.Ytcbigcpdbidlaaa.queueDoes
