/- Cases of the law, run by the kernel (2). -/
import Derived.Test.YtfielioaflfekaaGreatDoorNot0
set_option linter.unusedVariables false
set_option linter.unusedSimpArgs false
set_option linter.unusedSectionVars false
namespace Dk.K
open Go Dk
variable [Mx]
theorem fine_5_0_2 : Fine 5 0 2 := fun a b c r => by kernel_rfl
theorem fine_5_0_3 : Fine 5 0 3 := fun a b c r => by kernel_rfl
theorem fine_5_0_4 : Fine 5 0 4 := fun a b c r => by kernel_rfl
theorem fine_5_1_0 : Fine 5 1 0 := fun a b c r => by kernel_rfl
theorem fine_5_1_1 : Fine 5 1 1 := fun a b c r => by kernel_rfl
theorem fine_5_1_2 : Fine 5 1 2 := fun a b c r => by kernel_rfl
theorem fine_5_1_3 : Fine 5 1 3 := fun a b c r => by kernel_rfl
theorem fine_5_1_4 : Fine 5 1 4 := fun a b c r => by kernel_rfl
theorem fine_5_2_0 : Fine 5 2 0 := fun a b c r => by kernel_rfl
theorem fine_5_2_1 : Fine 5 2 1 := fun a b c r => by kernel_rfl
theorem fine_5_2_2 : Fine 5 2 2 := fun a b c r => by kernel_rfl
theorem fine_5_2_3 : Fine 5 2 3 := fun a b c r => by kernel_rfl
theorem fine_5_2_4 : Fine 5 2 4 := fun a b c r => by kernel_rfl
end Dk.K
