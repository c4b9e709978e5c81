/- The examples are as they should be: run by the kernel. -/
import Derived.Test.YtalodgghnpnnkaaDoorKey2
set_option linter.unusedVariables false
set_option linter.unusedSimpArgs false
set_option linter.unusedSectionVars false
namespace Dk.M
open Go Dk
variable [Mx]
theorem smallK : smallNos listK = true := by kernel_rfl
theorem noYieldK : progOf listK yieldNo = none := by kernel_rfl
noncomputable abbrev runK (f : Nat) (args : List EV) (H : HK) : Dk.R := runC (treeOf listK) 1000 60 f args H
theorem awake_run : runK n_sibyllaw03_awake [] noneK = some (eB true, noneK) := by kernel_rfl
theorem awake_ok (h : Hp) (hl : h.lim ≤ h.objs.length) : C0 n_sibyllaw03_awake [] h = some (eB true, h) := by
 obtain ⟨h', e, R⟩ := runC_ok (ext := noExt) smallK noYieldK noExt_mono awake_run noneK_rel
 rw [noneK_is R] at e
 exact call_any closed (f := n_sibyllaw03_awake) rfl rfl rfl rfl rfl (over _ _ _ _ e) hl
end Dk.M
