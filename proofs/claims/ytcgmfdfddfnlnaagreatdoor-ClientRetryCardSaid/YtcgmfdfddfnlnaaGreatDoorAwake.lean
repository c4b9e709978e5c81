/- Clients: the chapter's examples, run by the kernel. -/
import Derived.Test.YtcgmfdfddfnlnaaGreatDoorP
import Derived.Test.YtcgmfdfddfnlnaaGreatDoorGk6
set_option linter.unusedVariables false
set_option linter.unusedSimpArgs false
set_option linter.unusedSectionVars false
namespace Dk.R
open Go Dk

def noneK : HK := ⟨.nil, 0, 0⟩
theorem noneK_rel : HRel noneK ⟨[], 0⟩ := ⟨⟨fun i => by simp [noneK, T.get], by simp⟩, rfl, rfl⟩
theorem noneK_is {h : Hp} (R : HRel noneK h) : h = ⟨[], 0⟩ := by
  obtain ⟨os, lim⟩ := h
  have h1 := R.n
  have h2 := R.lim
  simp [noneK] at h1 h2
  subst h2
  cases os with
  | nil => rfl
  | cons => simp at h1
theorem small : smallNos progList = true := by kernel_rfl
theorem noYield : progOf progList yieldNo = none := by kernel_rfl
noncomputable abbrev run (f : Nat) (args : List EV) (H : HK) : R := runC (treeOf progList) 1000 60 f args H
theorem awake_run : run n_sibyllaw20_awake [] noneK = some (eB true, noneK) := by kernel_rfl
end Dk.R
