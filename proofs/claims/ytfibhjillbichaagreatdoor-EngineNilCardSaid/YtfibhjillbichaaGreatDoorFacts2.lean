/- What a row of a law tells of the program that it reaches, put together. No condition. -/
import Derived.Test.YtfibhjillbichaaGreatDoorFacts
namespace Go.Proofs.YtfibhjillbichaaGreatDoor.engineNil
open Go
theorem both {a b : Bool} (h : a = true) (k : b = true) : (a && b) = true := by rw [h, k]; rfl
set_option maxRecDepth 100000 in
theorem facts : joinedFacts Tryz.prog 3 Tryz.f3 Rows.engineNilSpec Rows.engineNilRow = true := by
  unfold joinedFacts
  exact both (both (both (both (both (both (both (both (both (both (both (both (both (both (both (both (both (both (both (both (both (both (both (both (both (both (both (both (both (both (both (fact0) fact1) fact2) fact3) fact4) fact5) fact6) fact7) fact8) fact9) fact10) fact11) fact12) fact13) fact14) fact15) fact16) fact17) fact18) fact19) fact20) fact21) fact22) fact23) fact24) fact25) fact26) fact27) fact28) fact29) fact30) fact31
end Go.Proofs.YtfibhjillbichaaGreatDoor.engineNil
