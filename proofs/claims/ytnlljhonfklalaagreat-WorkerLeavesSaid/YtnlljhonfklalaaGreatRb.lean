/- A worker leaves: runs in the kernel, 6 to 7 commands ahead. -/
import Derived.Test.YtnlljhonfklalaaGreatLeaves
set_option linter.unusedVariables false
set_option linter.unusedSimpArgs false
set_option linter.unusedSectionVars false
namespace Dk.W
open Go Dk
theorem run_6_0 : leave 6 0 = some (eB true, noneK) := by kernel_rfl
theorem run_6_1 : leave 6 1 = some (eB true, noneK) := by kernel_rfl
theorem run_6_2 : leave 6 2 = some (eB true, noneK) := by kernel_rfl
theorem run_6_3 : leave 6 3 = some (eB true, noneK) := by kernel_rfl
theorem run_6_4 : leave 6 4 = some (eB true, noneK) := by kernel_rfl
theorem run_6_5 : leave 6 5 = some (eB true, noneK) := by kernel_rfl
theorem run_7_0 : leave 7 0 = some (eB true, noneK) := by kernel_rfl
theorem run_7_1 : leave 7 1 = some (eB true, noneK) := by kernel_rfl
theorem run_7_2 : leave 7 2 = some (eB true, noneK) := by kernel_rfl
theorem run_7_3 : leave 7 3 = some (eB true, noneK) := by kernel_rfl
theorem run_7_4 : leave 7 4 = some (eB true, noneK) := by kernel_rfl
theorem run_7_5 : leave 7 5 = some (eB true, noneK) := by kernel_rfl
end Dk.W
