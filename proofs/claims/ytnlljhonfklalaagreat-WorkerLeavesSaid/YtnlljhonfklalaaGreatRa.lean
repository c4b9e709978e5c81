/- A worker leaves: runs in the kernel, 0 to 5 commands ahead. -/
import Derived.Test.YtnlljhonfklalaaGreatLeaves
set_option linter.unusedVariables false
set_option linter.unusedSimpArgs false
set_option linter.unusedSectionVars false
namespace Dk.W
open Go Dk
theorem run_0_0 : leave 0 0 = some (eB true, noneK) := by kernel_rfl
theorem run_0_1 : leave 0 1 = some (eB true, noneK) := by kernel_rfl
theorem run_0_2 : leave 0 2 = some (eB true, noneK) := by kernel_rfl
theorem run_0_3 : leave 0 3 = some (eB true, noneK) := by kernel_rfl
theorem run_0_4 : leave 0 4 = some (eB true, noneK) := by kernel_rfl
theorem run_0_5 : leave 0 5 = some (eB true, noneK) := by kernel_rfl
theorem run_1_0 : leave 1 0 = some (eB true, noneK) := by kernel_rfl
theorem run_1_1 : leave 1 1 = some (eB true, noneK) := by kernel_rfl
theorem run_1_2 : leave 1 2 = some (eB true, noneK) := by kernel_rfl
theorem run_1_3 : leave 1 3 = some (eB true, noneK) := by kernel_rfl
theorem run_1_4 : leave 1 4 = some (eB true, noneK) := by kernel_rfl
theorem run_1_5 : leave 1 5 = some (eB true, noneK) := by kernel_rfl
theorem run_2_0 : leave 2 0 = some (eB true, noneK) := by kernel_rfl
theorem run_2_1 : leave 2 1 = some (eB true, noneK) := by kernel_rfl
theorem run_2_2 : leave 2 2 = some (eB true, noneK) := by kernel_rfl
theorem run_2_3 : leave 2 3 = some (eB true, noneK) := by kernel_rfl
theorem run_2_4 : leave 2 4 = some (eB true, noneK) := by kernel_rfl
theorem run_2_5 : leave 2 5 = some (eB true, noneK) := by kernel_rfl
theorem run_3_0 : leave 3 0 = some (eB true, noneK) := by kernel_rfl
theorem run_3_1 : leave 3 1 = some (eB true, noneK) := by kernel_rfl
theorem run_3_2 : leave 3 2 = some (eB true, noneK) := by kernel_rfl
theorem run_3_3 : leave 3 3 = some (eB true, noneK) := by kernel_rfl
theorem run_3_4 : leave 3 4 = some (eB true, noneK) := by kernel_rfl
theorem run_3_5 : leave 3 5 = some (eB true, noneK) := by kernel_rfl
theorem run_4_0 : leave 4 0 = some (eB true, noneK) := by kernel_rfl
theorem run_4_1 : leave 4 1 = some (eB true, noneK) := by kernel_rfl
theorem run_4_2 : leave 4 2 = some (eB true, noneK) := by kernel_rfl
theorem run_4_3 : leave 4 3 = some (eB true, noneK) := by kernel_rfl
theorem run_4_4 : leave 4 4 = some (eB true, noneK) := by kernel_rfl
theorem run_4_5 : leave 4 5 = some (eB true, noneK) := by kernel_rfl
theorem run_5_0 : leave 5 0 = some (eB true, noneK) := by kernel_rfl
theorem run_5_1 : leave 5 1 = some (eB true, noneK) := by kernel_rfl
theorem run_5_2 : leave 5 2 = some (eB true, noneK) := by kernel_rfl
theorem run_5_3 : leave 5 3 = some (eB true, noneK) := by kernel_rfl
theorem run_5_4 : leave 5 4 = some (eB true, noneK) := by kernel_rfl
theorem run_5_5 : leave 5 5 = some (eB true, noneK) := by kernel_rfl
end Dk.W
