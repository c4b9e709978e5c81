/- Clients: the chapter's examples, run by the kernel. -/
import Derived.Test.YtfdghdmdjfgjiaaGreatDoorP
import Derived.Test.YtfdghdmdjfgjiaaGreatDoorMk6
import Derived.Test.YtfdghdmdjfgjiaaGreatDoorMk7
set_option linter.unusedVariables false
set_option linter.unusedSimpArgs false
set_option linter.unusedSectionVars false
namespace Dk.C
open Go Dk

def noneK : HK := ⟨.nil, 0, 0⟩
theorem noneK_rel : HRel noneK ⟨[], 0⟩ := ⟨⟨fun i => by simp [noneK, T.get], by simp⟩, rfl, rfl⟩
theorem noneK_is {h : Hp} (R : HRel noneK h) : h = ⟨[], 0⟩ := by
  obtain ⟨os, lim⟩ := h
  have h1 := R.n
  have h2 := R.lim
  simp [noneK] at h1 h2
  subst h2
  cases os with
  | nil => rfl
  | cons => simp at h1
theorem small : smallNos progList = true := by kernel_rfl
theorem closed : progCl progList = true := by kernel_rfl
theorem noYield : progOf progList yieldNo = none := by kernel_rfl
noncomputable abbrev run (f : Nat) (args : List EV) (H : HK) : R := runC (treeOf progList) 1000 60 f args H
theorem awake_run : run n_sibyllaw20_awake [] noneK = some (eB true, noneK) := by kernel_rfl
theorem awake_ok {h : Hp} (hh : h.lim ≤ h.objs.length) : C0 n_sibyllaw20_awake [] h = some (eB true, h) := by
  obtain ⟨h', e, R⟩ := runC_ok (ext := noExt) small noYield noExt_mono awake_run noneK_rel
  rw [noneK_is R] at e
  exact call_any closed (f := n_sibyllaw20_awake) (d := d_sibyllaw20_awake) (by kernel_rfl) rfl rfl rfl rfl e hh
end Dk.C
