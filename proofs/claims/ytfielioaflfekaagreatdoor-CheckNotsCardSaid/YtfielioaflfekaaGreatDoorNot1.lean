/- Cases of the law, run by the kernel (1). -/
import Derived.Test.YtfielioaflfekaaGreatDoorNot0
set_option linter.unusedVariables false
set_option linter.unusedSimpArgs false
set_option linter.unusedSectionVars false
namespace Dk.K
open Go Dk
variable [Mx]
theorem fine_3_0_0 : Fine 3 0 0 := fun a b c r => by kernel_rfl
theorem fine_3_0_1 : Fine 3 0 1 := fun a b c r => by kernel_rfl
theorem fine_3_0_2 : Fine 3 0 2 := fun a b c r => by kernel_rfl
theorem fine_4_0_0 : Fine 4 0 0 := fun a b c r => by kernel_rfl
theorem fine_4_0_1 : Fine 4 0 1 := fun a b c r => by kernel_rfl
theorem fine_4_0_2 : Fine 4 0 2 := fun a b c r => by kernel_rfl
theorem fine_4_0_3 : Fine 4 0 3 := fun a b c r => by kernel_rfl
theorem fine_4_1_0 : Fine 4 1 0 := fun a b c r => by kernel_rfl
theorem fine_4_1_1 : Fine 4 1 1 := fun a b c r => by kernel_rfl
theorem fine_4_1_2 : Fine 4 1 2 := fun a b c r => by kernel_rfl
theorem fine_4_1_3 : Fine 4 1 3 := fun a b c r => by kernel_rfl
theorem fine_5_0_0 : Fine 5 0 0 := fun a b c r => by kernel_rfl
theorem fine_5_0_1 : Fine 5 0 1 := fun a b c r => by kernel_rfl
end Dk.K
