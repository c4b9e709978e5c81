/- A worker leaves behind a close: all runs, and the law. -/
import Derived.Test.YtnlljhonfklalaaGreatRa
import Derived.Test.YtnlljhonfklalaaGreatRb
import Derived.Test.YtnlljhonfklalaaGreatRc
set_option linter.unusedVariables false
set_option linter.unusedSimpArgs false
set_option linter.unusedSectionVars false
namespace Dk.W
open Go Dk
theorem runs (n m : Int) (n1 : 0 ≤ n) (n2 : n < 10) (m1 : 0 ≤ m) (m2 : m < 6) : leave n m = some (eB true, noneK) := by
  have hn : n = 0 ∨ n = 1 ∨ n = 2 ∨ n = 3 ∨ n = 4 ∨ n = 5 ∨ n = 6 ∨ n = 7 ∨ n = 8 ∨ n = 9 := by omega
  have hm : m = 0 ∨ m = 1 ∨ m = 2 ∨ m = 3 ∨ m = 4 ∨ m = 5 := by omega
  rcases hn with rfl | rfl | rfl | rfl | rfl | rfl | rfl | rfl | rfl | rfl <;> rcases hm with rfl | rfl | rfl | rfl | rfl | rfl
  · exact run_0_0
  · exact run_0_1
  · exact run_0_2
  · exact run_0_3
  · exact run_0_4
  · exact run_0_5
  · exact run_1_0
  · exact run_1_1
  · exact run_1_2
  · exact run_1_3
  · exact run_1_4
  · exact run_1_5
  · exact run_2_0
  · exact run_2_1
  · exact run_2_2
  · exact run_2_3
  · exact run_2_4
  · exact run_2_5
  · exact run_3_0
  · exact run_3_1
  · exact run_3_2
  · exact run_3_3
  · exact run_3_4
  · exact run_3_5
  · exact run_4_0
  · exact run_4_1
  · exact run_4_2
  · exact run_4_3
  · exact run_4_4
  · exact run_4_5
  · exact run_5_0
  · exact run_5_1
  · exact run_5_2
  · exact run_5_3
  · exact run_5_4
  · exact run_5_5
  · exact run_6_0
  · exact run_6_1
  · exact run_6_2
  · exact run_6_3
  · exact run_6_4
  · exact run_6_5
  · exact run_7_0
  · exact run_7_1
  · exact run_7_2
  · exact run_7_3
  · exact run_7_4
  · exact run_7_5
  · exact run_8_0
  · exact run_8_1
  · exact run_8_2
  · exact run_8_3
  · exact run_8_4
  · exact run_8_5
  · exact run_9_0
  · exact run_9_1
  · exact run_9_2
  · exact run_9_3
  · exact run_9_4
  · exact run_9_5
theorem workerLeaves_D : ∀ xss, Typed [([.int .i64], false), ([.int .i64], false)] xss → C0 n_sibyllaw21_WorkerLeaves (argsEV [([.int .i64], false), ([.int .i64], false)] xss) ⟨[], 0⟩ = some (eB true, ⟨[], 0⟩) := by
  intro xss h
  simp only [Typed, PTs, PT] at h
  obtain ⟨_, _, rfl, ⟨_, _, rfl, ⟨a, rfl, ha⟩, rfl⟩, ⟨_, _, rfl, ⟨_, _, rfl, ⟨b, rfl, hb⟩, rfl⟩, rfl⟩⟩ := h
  have e1 : IntKind.i64.min = -9223372036854775808 := by decide
  have e2 : IntKind.i64.max = 9223372036854775807 := by decide
  rw [e1, e2] at ha hb
  exact leaves_ok a b ⟨ha.1, by omega⟩ ⟨hb.1, by omega⟩ runs
end Dk.W
