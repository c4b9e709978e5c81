/- The chapter's example, run by the kernel. -/
import Derived.Test.YtcbigcpdbidlaaaP
import Derived.Test.YtcbigcpdbidlaaaLk6
set_option linter.unusedVariables false
set_option linter.unusedSimpArgs false
set_option linter.unusedSectionVars false
namespace Dk.Q
open Go Dk

def noneK : HK := ⟨.nil, 0, 0⟩
theorem noneK_rel : HRel noneK ⟨[], 0⟩ := ⟨⟨fun i => by simp [noneK, T.get], by simp⟩, rfl, rfl⟩
theorem noneK_is {h : Hp} (R : HRel noneK h) : h = ⟨[], 0⟩ := by
  obtain ⟨os, lim⟩ := h
  have h1 := R.n
  have h2 := R.lim
  simp [noneK] at h1 h2
  subst h2
  cases os with
  | nil => rfl
  | cons => simp at h1

theorem small : smallNos progList = true := by kernel_rfl
theorem noYield : progOf progList yieldNo = none := by kernel_rfl
theorem awake_run : runC (treeOf progList) 1000 40 n_qawake [] noneK = some (eB true, noneK) := by kernel_rfl
theorem awake_ok : C0 n_qawake [] ⟨[], 0⟩ = some (eB true, ⟨[], 0⟩) := by
  obtain ⟨h', e, R⟩ := runC_ok (ext := noExt) small noYield noExt_mono awake_run noneK_rel
  rw [noneK_is R] at e
  exact e
end Dk.Q
