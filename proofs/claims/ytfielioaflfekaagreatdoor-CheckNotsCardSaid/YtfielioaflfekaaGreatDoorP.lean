/- D's program. -/
import Derived.Test.YtfielioaflfekaaGreatDoorCode
import Derived.Test.YtfielioaflfekaaGreatDoorNk5
import Derived.Test.YtfielioaflfekaaGreatDoorNk6
set_option linter.unusedVariables false
set_option linter.unusedSimpArgs false
set_option linter.unusedSectionVars false
namespace Dk.K
open Go Dk
variable [Mx]
def prog : Prog := progOf progList
noncomputable def C0 : CallFn := call prog noExt
end Dk.K
