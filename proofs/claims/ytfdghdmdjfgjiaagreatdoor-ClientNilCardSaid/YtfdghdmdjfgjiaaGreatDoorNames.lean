/- Names: the few that there are, run by the kernel; codes, and how many values they take. -/
import Derived.Test.YtfdghdmdjfgjiaaGreatDoorAwake
set_option linter.unusedVariables false
set_option linter.unusedSimpArgs false
set_option linter.unusedSectionVars false
namespace Dk.C
open Go Dk

theorem name_e : run n_rName [.p (.str (bs []))] noneK = some (eB false, noneK) := by kernel_rfl
theorem name_a : run n_rName [.p (.str (bs [97]))] noneK = some (eB true, noneK) := by kernel_rfl
theorem name_b : run n_rName [.p (.str (bs [98]))] noneK = some (eB true, noneK) := by kernel_rfl
theorem name_c : run n_rName [.p (.str (bs [99]))] noneK = some (eB true, noneK) := by kernel_rfl
theorem name_d : run n_rName [.p (.str (bs [100]))] noneK = some (eB true, noneK) := by kernel_rfl
theorem name_of {s : ByteArray} {b : Bool} (r : run n_rName [.p (.str s)] noneK = some (eB b, noneK)) {h : Hp} (hh : h.lim ≤ h.objs.length) : C0 n_rName [.p (.str s)] h = some (eB b, h) := by
  obtain ⟨h', e, R⟩ := runC_ok (ext := noExt) small noYield noExt_mono r noneK_rel
  rw [noneK_is R] at e
  exact call_any closed (f := n_rName) (d := d_rName) (by kernel_rfl) rfl rfl rfl rfl e hh

/-- A name of a query by numbers, or none. -/
def isVar (s : ByteArray) : Prop := s = bs [] ∨ s = bs [97] ∨ s = bs [98] ∨ s = bs [99] ∨ s = bs [100]
def nmB (s : ByteArray) : Bool := decide (s.size = 1)
theorem bs_size (l : List Nat) : (bs l).size = l.length := by simp [bs, ByteArray.size]
theorem isVar.size {s : ByteArray} (h : isVar s) : s.size ≤ 1 := by
  rcases h with rfl | rfl | rfl | rfl | rfl <;> simp [bs_size]
theorem name_ok {s : ByteArray} (v : isVar s) {h : Hp} (hh : h.lim ≤ h.objs.length) : C0 n_rName [.p (.str s)] h = some (eB (nmB s), h) := by
  rcases v with rfl | rfl | rfl | rfl | rfl
  · rw [name_of name_e hh]; rfl
  · rw [name_of name_a hh]; rfl
  · rw [name_of name_b hh]; rfl
  · rw [name_of name_c hh]; rfl
  · rw [name_of name_d hh]; rfl

structure Code where
  (op n : Int)
  v : ByteArray
  (f a : Int)
def Code.cells (c : Code) : List EV := [eI c.op, eI c.n, .p (.str c.v), eI c.f, eI c.a]
def Code.pd (c : Code) : PD := .agg [iN c.op, iN c.n, .str c.v, iN c.f, iN c.a]
structure CodeOK (c : Code) : Prop where
  v : isVar c.v
  n : 0 ≤ c.n ∧ c.n ≤ 9
def two (o : Int) : Prop := o = 1 ∨ o = 2 ∨ o = 3 ∨ o = 4 ∨ o = 5
instance (o : Int) : Decidable (two o) := by unfold two; infer_instance
/-- How many values a code takes. -/
def tk (c : Code) : Int := if two c.op then 2 else if c.op = 9 then 1 else if c.op = 6 then (if 0 ≤ c.n then 0 else -1) else if c.op = 8 then (if nmB c.v then 0 else -1) else if c.op = 7 then (if nmB c.v = true ∧ 0 ≤ c.f ∧ c.f < 4 then 0 else -1) else -1
theorem takes_ok {c : Code} (ok : CodeOK c) {h : Hp} (hh : h.lim ≤ h.objs.length) : C0 n_rtakes [.agg c.cells] h = some (eI (tk c), h) := by
  refine call_loc noExt_mono (f := n_rtakes) rfl rfl rfl fun h0 e0 el => ?_
  have hl : h0.lim ≤ h0.objs.length := by omega
  simp [Code.cells, ones, lk hl]
  refine PutA_eq (name_ok ok.v (by simp; omega)) ?_
  simp
  by_cases h1 : c.op = 1
  · simp [h1, Ends, tk, two]
  by_cases h2 : c.op = 2
  · simp [h2, Ends, tk, two]
  by_cases h3 : c.op = 3
  · simp [h3, Ends, tk, two]
  by_cases h4 : c.op = 4
  · simp [h4, Ends, tk, two]
  by_cases h5 : c.op = 5
  · simp [h5, Ends, tk, two]
  by_cases h9 : c.op = 9
  · simp [h9, Ends, tk, two]
  by_cases h6 : c.op = 6
  · simp [h6, ok.n.1, Ends, tk, two]
  by_cases h8 : c.op = 8
  · cases hn : nmB c.v <;> simp [h8, hn, Ends, tk, two]
  by_cases h7 : c.op = 7
  · cases hn : nmB c.v
    · simp [h7, hn, Ends, tk, two]
    · by_cases f0 : 0 ≤ c.f
      · by_cases f4 : c.f < 4
        · simp [h7, hn, f0, f4, Ends, tk, two]
        · simp [h7, hn, f0, f4, Ends, tk, two]
      · simp [h7, hn, f0, Ends, tk, two]
  · simp [h1, h2, h3, h4, h5, h6, h7, h8, h9, Ends, tk, two]
end Dk.C
