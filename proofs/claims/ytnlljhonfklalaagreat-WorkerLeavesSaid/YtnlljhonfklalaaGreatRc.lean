/- A worker leaves: runs in the kernel, 8 to 9 commands ahead. -/
import Derived.Test.YtnlljhonfklalaaGreatLeaves
set_option linter.unusedVariables false
set_option linter.unusedSimpArgs false
set_option linter.unusedSectionVars false
namespace Dk.W
open Go Dk
theorem run_8_0 : leave 8 0 = some (eB true, noneK) := by kernel_rfl
theorem run_8_1 : leave 8 1 = some (eB true, noneK) := by kernel_rfl
theorem run_8_2 : leave 8 2 = some (eB true, noneK) := by kernel_rfl
theorem run_8_3 : leave 8 3 = some (eB true, noneK) := by kernel_rfl
theorem run_8_4 : leave 8 4 = some (eB true, noneK) := by kernel_rfl
theorem run_8_5 : leave 8 5 = some (eB true, noneK) := by kernel_rfl
theorem run_9_0 : leave 9 0 = some (eB true, noneK) := by kernel_rfl
theorem run_9_1 : leave 9 1 = some (eB true, noneK) := by kernel_rfl
theorem run_9_2 : leave 9 2 = some (eB true, noneK) := by kernel_rfl
theorem run_9_3 : leave 9 3 = some (eB true, noneK) := by kernel_rfl
theorem run_9_4 : leave 9 4 = some (eB true, noneK) := by kernel_rfl
theorem run_9_5 : leave 9 5 = some (eB true, noneK) := by kernel_rfl
end Dk.W
