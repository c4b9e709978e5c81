/- A part of the proof: D's calls, and what they come to. No condition. -/
import Derived.Test.YtcbigcpdbidlaaaCode
import Derived.Test.YtcbigcpdbidlaaaLk5
set_option linter.unusedVariables false
set_option linter.unusedSimpArgs false
set_option linter.unusedSectionVars false
namespace Dk.Q
open Go Dk
def prog : Prog := progOf progList
noncomputable def C0 : CallFn := call prog noExt
end Dk.Q
