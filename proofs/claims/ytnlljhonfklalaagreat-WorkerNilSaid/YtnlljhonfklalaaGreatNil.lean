/- Of no worker nothing comes: run by the kernel, in five cases of the number. -/
import Derived.Test.YtnlljhonfklalaaGreatP
import Derived.Test.YtnlljhonfklalaaGreatEk5
set_option linter.unusedVariables false
set_option linter.unusedSimpArgs false
set_option linter.unusedSectionVars false
namespace Dk.W
open Go Dk

def noneK : HK := ⟨.nil, 0, 0⟩
theorem noneK_rel : HRel noneK ⟨[], 0⟩ := ⟨⟨fun i => by simp [noneK, T.get], by simp⟩, rfl, rfl⟩
theorem noneK_is {h : Hp} (R : HRel noneK h) : h = ⟨[], 0⟩ := by
  obtain ⟨os, lim⟩ := h
  have h1 := R.n
  have h2 := R.lim
  simp [noneK] at h1 h2
  subst h2
  cases os with
  | nil => rfl
  | cons => simp at h1
theorem small : smallNos progList = true := by kernel_rfl
theorem noYield : progOf progList yieldNo = none := by kernel_rfl
theorem of_run {f : Nat} {args : List EV} {k n : Nat} (e : runC (treeOf progList) k n f args noneK = some (eB true, noneK)) : C0 f args ⟨[], 0⟩ = some (eB true, ⟨[], 0⟩) := by
  obtain ⟨h', e, R⟩ := runC_ok (ext := noExt) small noYield noExt_mono e noneK_rel
  rw [noneK_is R] at e
  exact e

theorem nil_neg (m : Nat) : runC (treeOf progList) 1000 60 n_sibyllaw21_WorkerNil [.p (.int .i64 (.negSucc m))] noneK = some (eB true, noneK) := by kernel_rfl
theorem nil_0 : runC (treeOf progList) 1000 60 n_sibyllaw21_WorkerNil [.p (.int .i64 (.ofNat 0))] noneK = some (eB true, noneK) := by kernel_rfl
theorem nil_1 : runC (treeOf progList) 1000 60 n_sibyllaw21_WorkerNil [.p (.int .i64 (.ofNat 1))] noneK = some (eB true, noneK) := by kernel_rfl
theorem nil_2 : runC (treeOf progList) 1000 60 n_sibyllaw21_WorkerNil [.p (.int .i64 (.ofNat 2))] noneK = some (eB true, noneK) := by kernel_rfl
theorem nil_more (m : Nat) : runC (treeOf progList) 1000 60 n_sibyllaw21_WorkerNil [.p (.int .i64 (.ofNat (Nat.succ (Nat.succ (Nat.succ m)))))] noneK = some (eB true, noneK) := by kernel_rfl

theorem workerNil_ok (n : Int) : C0 n_sibyllaw21_WorkerNil [eI n] ⟨[], 0⟩ = some (eB true, ⟨[], 0⟩) := by
  match n with
  | .negSucc m => exact of_run (nil_neg m)
  | .ofNat 0 => exact of_run nil_0
  | .ofNat 1 => exact of_run nil_1
  | .ofNat 2 => exact of_run nil_2
  | .ofNat (m + 3) => exact of_run (nil_more m)
theorem workerNil_D : ∀ xss, Typed [([.int .i64], false)] xss → C0 n_sibyllaw21_WorkerNil (argsEV [([.int .i64], false)] xss) ⟨[], 0⟩ = some (eB true, ⟨[], 0⟩) := by
  intro xss h
  simp only [Typed, PTs, PT] at h
  obtain ⟨_, _, rfl, ⟨_, _, rfl, ⟨a, rfl, -⟩, rfl⟩, rfl⟩ := h
  exact workerNil_ok a
end Dk.W
