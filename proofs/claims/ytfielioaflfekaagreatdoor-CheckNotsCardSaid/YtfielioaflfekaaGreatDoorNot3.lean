/- Cases of the law, run by the kernel (3). -/
import Derived.Test.YtfielioaflfekaaGreatDoorNot0
set_option linter.unusedVariables false
set_option linter.unusedSimpArgs false
set_option linter.unusedSectionVars false
namespace Dk.K
open Go Dk
variable [Mx]
theorem fine_6_0_0 : Fine 6 0 0 := fun a b c r => by kernel_rfl
theorem fine_6_0_1 : Fine 6 0 1 := fun a b c r => by kernel_rfl
theorem fine_6_0_2 : Fine 6 0 2 := fun a b c r => by kernel_rfl
theorem fine_6_0_3 : Fine 6 0 3 := fun a b c r => by kernel_rfl
theorem fine_6_0_4 : Fine 6 0 4 := fun a b c r => by kernel_rfl
theorem fine_6_0_5 : Fine 6 0 5 := fun a b c r => by kernel_rfl
theorem fine_6_1_0 : Fine 6 1 0 := fun a b c r => by kernel_rfl
theorem fine_6_1_1 : Fine 6 1 1 := fun a b c r => by kernel_rfl
theorem fine_6_1_2 : Fine 6 1 2 := fun a b c r => by kernel_rfl
theorem fine_6_1_3 : Fine 6 1 3 := fun a b c r => by kernel_rfl
theorem fine_6_1_4 : Fine 6 1 4 := fun a b c r => by kernel_rfl
theorem fine_6_1_5 : Fine 6 1 5 := fun a b c r => by kernel_rfl
end Dk.K
