/- Of two calls that saw one tail the first one takes that stamp: all cases run by the kernel. -/
import Derived.Test.YtcgmfdfddfnlnaaGreatDoorAwake
set_option linter.unusedVariables false
set_option linter.unusedSimpArgs false
set_option linter.unusedSectionVars false
namespace Dk.R
open Go Dk

def known (r : Int) : List Known := [⟨n_sibyllaw20_rest, 2, .int .i64 9, .int .i64 r⟩]
/-- The law's body, with the rest put in. -/
def md (r : Int) : DFn := { d_sibyllaw20_ClientRetry with body := repls (known r) d_sibyllaw20_ClientRetry.body }
noncomputable def retry (f s : Bool) (a r : Int) : R := body0C 1000 (callC (treeOf progList) 1000 60) (md r) [eB f, eB s, .p (.int .i64 a)] noneK fun v h => some (v, h)
theorem run_0 (f s : Bool) (a : Int) : retry f s a 0 = some (eB true, noneK) := by cases f <;> cases s <;> kernel_rfl
theorem run_1 (f s : Bool) (a : Int) : retry f s a 1 = some (eB true, noneK) := by cases f <;> cases s <;> kernel_rfl
theorem run_2 (f s : Bool) (a : Int) : retry f s a 2 = some (eB true, noneK) := by cases f <;> cases s <;> kernel_rfl
theorem run_3 (f s : Bool) (a : Int) : retry f s a 3 = some (eB true, noneK) := by cases f <;> cases s <;> kernel_rfl
theorem run_4 (f s : Bool) (a : Int) : retry f s a 4 = some (eB true, noneK) := by cases f <;> cases s <;> kernel_rfl
theorem run_5 (f s : Bool) (a : Int) : retry f s a 5 = some (eB true, noneK) := by cases f <;> cases s <;> kernel_rfl
theorem run_6 (f s : Bool) (a : Int) : retry f s a 6 = some (eB true, noneK) := by cases f <;> cases s <;> kernel_rfl
theorem run_7 (f s : Bool) (a : Int) : retry f s a 7 = some (eB true, noneK) := by cases f <;> cases s <;> kernel_rfl
theorem run_8 (f s : Bool) (a : Int) : retry f s a 8 = some (eB true, noneK) := by cases f <;> cases s <;> kernel_rfl
theorem runs (f s : Bool) (a r : Int) (h0 : 0 ≤ r) (h1 : r < 9) : retry f s a r = some (eB true, noneK) := by
  have h : r = 0 ∨ r = 1 ∨ r = 2 ∨ r = 3 ∨ r = 4 ∨ r = 5 ∨ r = 6 ∨ r = 7 ∨ r = 8 := by omega
  rcases h with rfl | rfl | rfl | rfl | rfl | rfl | rfl | rfl | rfl
  · exact run_0 f s a
  · exact run_1 f s a
  · exact run_2 f s a
  · exact run_3 f s a
  · exact run_4 f s a
  · exact run_5 f s a
  · exact run_6 f s a
  · exact run_7 f s a
  · exact run_8 f s a
theorem rest_ok (x n : Int) (hx : -9223372036854775808 ≤ x ∧ x < 9223372036854775808) (hn : 0 < n) (hb : n < 1000000) : ∃ r : Int, 0 ≤ r ∧ r < n ∧ ∀ h, C0 n_sibyllaw20_rest [eI x, eI n] h = some (eI r, h) := by
  have h1 : -n < x.tmod n := Int.lt_tmod_of_pos x hn
  have h2 : x.tmod n < n := Int.tmod_lt_of_pos x hn
  refine ⟨(x.tmod n + n).tmod n, Int.tmod_nonneg _ (by omega), Int.tmod_lt_of_pos _ hn, fun h => ?_⟩
  refine call_loc noExt_mono (f := n_sibyllaw20_rest) rfl rfl rfl fun h0 e0 el => ?_
  have hne : ¬ n = 0 := by omega
  have w1 : IntKind.i64.wrap (x.tmod n + n) = x.tmod n + n := wrap64 (by omega) (by omega)
  simp [Ends, hne, w1]
theorem clientRetry_ok (f s : Bool) (a : Int) (ha : -9223372036854775808 ≤ a ∧ a < 9223372036854775808) : C0 n_sibyllaw20_ClientRetry [eB f, eB s, eI a] ⟨[], 0⟩ = some (eB true, ⟨[], 0⟩) := by
  refine call_loc noExt_mono (f := n_sibyllaw20_ClientRetry) rfl rfl rfl fun h0 e0 el => ?_
  obtain ⟨os, lim⟩ := h0
  simp at e0 el
  subst e0 el
  obtain ⟨r, r1, r2, hr⟩ : ∃ r : Int, 0 ≤ r ∧ r < 9 ∧ ∀ h, C0 n_sibyllaw20_rest [eI a, eI 9] h = some (eI r, h) := rest_ok a 9 ha (by omega) (by omega)
  have H := run_of (ext := noExt) small noYield noExt_mono (d := md r) rfl (runs f s a r r1 r2) noneK_rel
  refine Run_repls (l := known r) (fun q hq => ?_) H
  simp only [known, List.mem_singleton] at hq
  subst hq
  exact ⟨hr, by kernel_rfl⟩
theorem clientRetry_D : ∀ xss, Typed [([.bool], false), ([.bool], false), ([.int .i64], false)] xss → C0 n_sibyllaw20_ClientRetry (argsEV [([.bool], false), ([.bool], false), ([.int .i64], false)] xss) ⟨[], 0⟩ = some (eB true, ⟨[], 0⟩) := by
  intro xss h
  simp only [Typed, PTs, PT] at h
  obtain ⟨_, _, rfl, ⟨_, _, rfl, ⟨f, rfl⟩, rfl⟩, ⟨_, _, rfl, ⟨_, _, rfl, ⟨s, rfl⟩, rfl⟩, ⟨_, _, rfl, ⟨_, _, rfl, ⟨a, rfl, ha⟩, rfl⟩, rfl⟩⟩⟩ := h
  have e1 : IntKind.i64.min = -9223372036854775808 := by decide
  have e2 : IntKind.i64.max = 9223372036854775807 := by decide
  rw [e1, e2] at ha
  exact clientRetry_ok f s a ⟨ha.1, by omega⟩
end Dk.R
