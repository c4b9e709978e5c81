/- Cases of the law, run by the kernel (4). -/
import Derived.Test.YtfielioaflfekaaGreatDoorNot0
set_option linter.unusedVariables false
set_option linter.unusedSimpArgs false
set_option linter.unusedSectionVars false
namespace Dk.K
open Go Dk
variable [Mx]
theorem fine_6_2_0 : Fine 6 2 0 := fun a b c r => by kernel_rfl
theorem fine_6_2_1 : Fine 6 2 1 := fun a b c r => by kernel_rfl
theorem fine_6_2_2 : Fine 6 2 2 := fun a b c r => by kernel_rfl
theorem fine_6_2_3 : Fine 6 2 3 := fun a b c r => by kernel_rfl
theorem fine_6_2_4 : Fine 6 2 4 := fun a b c r => by kernel_rfl
theorem fine_6_2_5 : Fine 6 2 5 := fun a b c r => by kernel_rfl
theorem fine_6_3_0 : Fine 6 3 0 := fun a b c r => by kernel_rfl
theorem fine_6_3_1 : Fine 6 3 1 := fun a b c r => by kernel_rfl
theorem fine_6_3_2 : Fine 6 3 2 := fun a b c r => by kernel_rfl
theorem fine_6_3_3 : Fine 6 3 3 := fun a b c r => by kernel_rfl
theorem fine_6_3_4 : Fine 6 3 4 := fun a b c r => by kernel_rfl
theorem fine_6_3_5 : Fine 6 3 5 := fun a b c r => by kernel_rfl
end Dk.K
