/- A part of the proof: D's calls, and what they come to. No condition. -/
import Derived.Test.YtcbigcpdbidlaaaCode
import Derived.Test.YtcbigcpdbidlaaaDk4
set_option linter.unusedVariables false
set_option linter.unusedSimpArgs false
namespace Dk.A
open Go Dk
def prog : Prog := progOf progList
noncomputable def C0 : CallFn := call prog noExt
end Dk.A
