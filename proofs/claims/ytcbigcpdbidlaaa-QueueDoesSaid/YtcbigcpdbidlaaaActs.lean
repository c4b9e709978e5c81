/- Acts, as a law has them; the chapter's example, with a box below. -/
import Derived.Test.YtcbigcpdbidlaaaLaw
set_option linter.unusedVariables false
set_option linter.unusedSimpArgs false
set_option linter.unusedSectionVars false
namespace Dk.Q
open Go Dk

theorem heapOf_is {l : List Obj} {lim : Nat} (hl : l.length < 1000000) {h : Hp} (R : HRel (heapOf l lim) h) : h = ⟨l, lim⟩ := by
  have R2 := heapOf_ok (l := l) (lim := lim) hl
  obtain ⟨os, m⟩ := h
  have h1 : os = l := List.ext_getElem? fun i => (R.tr.1 i).symm.trans (R2.tr.1 i)
  have h2 : m = lim := R.lim.symm
  rw [h1, h2]
theorem awake_one' (o1 : Obj) : runC (treeOf progList) 1000 40 n_qawake [] (heapOf [o1] 0) = some (eB true, heapOf [o1] 0) := by kernel_rfl
theorem awake_one (o1 : Obj) : C0 n_qawake [] ⟨[o1], 0⟩ = some (eB true, ⟨[o1], 0⟩) := by
  obtain ⟨h', e, R⟩ := runC_ok (ext := noExt) small noYield noExt_mono (awake_one' o1) (heapOf_ok (by simp))
  rw [heapOf_is (by simp) R] at e
  exact e

theorem ints_pt {xs : List PD} (hx : ∀ e ∈ xs, (if false = true then ∃ cs, e = .agg cs ∧ PTs [.int .i64] cs else PTs [.int .i64] [e])) : ∃ l : List Int, xs = l.map iN := by
  induction xs with
  | nil => exact ⟨[], rfl⟩
  | cons x xs ih =>
    obtain ⟨l, rfl⟩ := ih fun e he => hx e (by simp [he])
    have := hx x (by simp)
    simp only [Bool.false_eq_true, if_false, PTs, PT] at this
    obtain ⟨_, _, e, ⟨n, rfl, _⟩, rfl⟩ := this
    cases e
    exact ⟨n :: l, rfl⟩
theorem acts_pt {xs : List PD} (hx : ∀ e ∈ xs, (if true = true then ∃ cs, e = .agg cs ∧ PTs [.int .i64, .int .i64, .int .i64, .slice [.int .i64] false, .slice [.int .i64] false, .int .i64] cs else PTs [.int .i64, .int .i64, .int .i64, .slice [.int .i64] false, .slice [.int .i64] false, .int .i64] [e])) : ∃ l : List Act, xs = l.map Act.pd := by
  induction xs with
  | nil => exact ⟨[], rfl⟩
  | cons x xs ih =>
    obtain ⟨l, rfl⟩ := ih fun e he => hx e (by simp [he])
    have := hx x (by simp)
    simp only [if_true] at this
    obtain ⟨cs, rfl, hc⟩ := this
    simp only [PTs] at hc
    obtain ⟨_, _, rfl, h1, _, _, rfl, h2, _, _, rfl, h3, _, _, rfl, h4, _, _, rfl, h5, _, _, rfl, h6, rfl⟩ := hc
    simp only [PT] at h1 h2 h3 h6
    obtain ⟨k, rfl, -⟩ := h1
    obtain ⟨i, rfl, -⟩ := h2
    obtain ⟨n, rfl, -⟩ := h3
    obtain ⟨s, rfl, -⟩ := h6
    simp only [PT] at h4 h5
    obtain ⟨ys, rfl, -, h4⟩ := h4
    obtain ⟨zs, rfl, -, h5⟩ := h5
    obtain ⟨hits, rfl⟩ := ints_pt h4
    obtain ⟨lost, rfl⟩ := ints_pt h5
    exact ⟨⟨k, i, n, hits, lost, s⟩ :: l, rfl⟩
/-- A law of two numbers, and acts: from what it is in D. -/
theorem law_acts {F : Nat} (H : ∀ (q0 q1 : Int) (acts : List Act), acts.length ≤ maxLen → C0 F [.agg [eI q0, eI q1], .p (.list (acts.map Act.pd))] ⟨[], 0⟩ = some (eB true, ⟨[], 0⟩)) : ∀ xss, Typed [([.int .i64, .int .i64], true), ([.slice [.int .i64, .int .i64, .int .i64, .slice [.int .i64] false, .slice [.int .i64] false, .int .i64] true], false)] xss → C0 F (argsEV [([.int .i64, .int .i64], true), ([.slice [.int .i64, .int .i64, .int .i64, .slice [.int .i64] false, .slice [.int .i64] false, .int .i64] true], false)] xss) ⟨[], 0⟩ = some (eB true, ⟨[], 0⟩) := by
  intro xss h
  simp only [Typed, PTs] at h
  obtain ⟨_, _, rfl, ⟨_, _, rfl, ha, _, _, rfl, hb, rfl⟩, _, _, rfl, ⟨_, _, rfl, hc, rfl⟩, rfl⟩ := h
  simp only [PT] at ha hb
  obtain ⟨a, rfl, -⟩ := ha
  obtain ⟨b, rfl, -⟩ := hb
  simp only [PT] at hc
  obtain ⟨xs, rfl, hl, hx⟩ := hc
  obtain ⟨acts, rfl⟩ := acts_pt hx
  exact H a b acts (by simpa using hl)
end Dk.Q
