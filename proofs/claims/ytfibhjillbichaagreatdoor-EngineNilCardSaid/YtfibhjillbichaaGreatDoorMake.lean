/- Engines: what the parts' New make; a pointer comes of each. -/
import Derived.Test.YtfibhjillbichaaGreatDoorNew
set_option linter.unusedVariables false
set_option linter.unusedSimpArgs false
set_option linter.unusedSectionVars false
namespace Dk.N
open Go Dk

/-- A pointer comes, and what was there stays. -/
def NewP (h : Hp) (v : EV) (h' : Hp) : Prop := ∃ id, v = .ptr id 0 0 0 ∧ Fwd [] h h'
theorem fold_le {n : Int} (h1 : ¬ n < 1) (h2 : ¬ 4096 < n) (b : Int) (hb : 0 ≤ b ∧ b ≤ 1000) : 0 ≤ n ∧ n ≤ n ∧ n * b ≤ 140737488355328 ∧ n < 9223372036854775808 := by
  refine ⟨by omega, by omega, ?_, by omega⟩
  have : n * b ≤ 4096 * 1000 := Int.mul_le_mul (by omega) hb.2 hb.1 (by omega)
  omega
theorem store_new {n : Int} (h : Hp) (hn : 1 ≤ n ∧ n ≤ 4096) : WA (C0 n_store_New [eI n] h) (NewP h) := by
  refine call_W noExt_mono (f := n_store_New) rfl rfl ?_
  have h1 : ¬ n < 1 := by omega
  have h2 : ¬ 4096 < n := by omega
  have h3 := fold_le h1 h2 72 (by omega)
  simp [ones, h1, h2, h3, Ends]
  exact ⟨_, rfl, by repeat first | exact Fwd.refl _ _ | refine Fwd.new ?_ _⟩
theorem ring_new {n : Int} (h : Hp) (hn : 1 ≤ n ∧ n ≤ 4096) : WA (C0 n_ring_New [eI n] h) (NewP h) := by
  refine call_W noExt_mono (f := n_ring_New) rfl rfl ?_
  have h1 : ¬ n < 1 := by omega
  have h2 : ¬ 4096 < n := by omega
  have h3 := fold_le h1 h2 136 (by omega)
  simp [ones, h1, h2, h3, Ends]
  exact ⟨_, rfl, by repeat first | exact Fwd.refl _ _ | refine Fwd.new ?_ _⟩
theorem ring_new2 {n : Int} (h : Hp) (hn : 1 ≤ n ∧ n ≤ 4096) : WA (C0 n_ring_New_40 [eI n] h) (NewP h) := by
  refine call_W noExt_mono (f := n_ring_New_40) rfl rfl ?_
  have h1 : ¬ n < 1 := by omega
  have h2 : ¬ 4096 < n := by omega
  have h3 := fold_le h1 h2 104 (by omega)
  simp [ones, h1, h2, h3, Ends]
  exact ⟨_, rfl, by repeat first | exact Fwd.refl _ _ | refine Fwd.new ?_ _⟩
structure EI (h0 : Hp) (n : Int) (id : Nat) (k : Nat) (fr : Fr) (h : Hp) (i : Nat) : Prop where
  le : i ≤ 16
  k : k = 16 - i
  g3 : fr.get 3 = .ptr id 0 0 0
  g14 : fr.get 14 = eI i
  new : h0.objs.length ≤ id
  lim : h0.lim ≤ id
  fwd : Fwd [] h0 h
  arr : ∃ cs, h.arr id 0 = some ⟨0, 34, true, 0, [cs]⟩ ∧ cs.length = 34
theorem epoch_new {n : Int} (h : Hp) (hl : h.lim ≤ h.objs.length) (hn : 1 ≤ n ∧ n ≤ 16) : WA (C0 n_epoch_New [eI n] h) (NewP h) := by
  refine call_W noExt_mono (f := n_epoch_New) rfl rfl ?_
  have h1 : ¬ n < 1 := by omega
  have h2 : ¬ 16 < n := by omega
  simp [ones, h1, h2]
  refine Run_loop (fun k fr hh => ∃ i, EI h n h.objs.length k fr hh i) (n := 16) ?_ ?_
  · exact ⟨0, by omega, rfl, by simp, by simp, by omega, hl, by repeat first | exact Fwd.refl _ _ | refine Fwd.new ?_ _, _, (by simp; rfl), by simp⟩
  rintro k fr hh ⟨i, i1, i2, g3, g14, hn1, hl1, hf, cs, a1, hc⟩
  by_cases hi : (i : Int) < 16
  · have hi' : i < 16 := by omega
    have hc2 : 2 + (i + 1) ≤ cs.length := by omega
    have hlt := arr_lt a1
    have w1 : IntKind.i64.wrap ((i : Int) + 1) = (i : Int) + 1 := wrap64 (by omega) (by omega)
    have hll := hf.lim
    simp [g3, g14, hi, a1, ixpAt, hi', hc2, ones, hll, hl1, w1]
    exact ⟨_, by rw [i2]; omega, i + 1, by omega, rfl, by simp, by simp, hn1, hl1, hf.set _ (.inr (Nat.le_refl _)), _, by simp [Hp.arr_set, hlt]; rfl, by simp; omega⟩
  · simp [g3, g14, hi, Ends, hf.back]
    exact ⟨_, rfl, hf⟩
theorem config_ok {id : Nat} {h : Hp} (hl : h.lim ≤ h.objs.length) {s a b q r o z : Int} {rest : List EV} (ha : h.arr id 0 = some ⟨0, 15, true, 0, [cells s a b q r o z ++ rest]⟩) (hr : rest.length = 8) :
    WA (C0 n_log_Log_Config [.ptr id 0 0 0] h) fun v h' => v = .agg (cells s a b q r o z) ∧ Fwd [] h h' := by
  refine call_W noExt_mono (f := n_log_Log_Config) rfl rfl ?_
  have := arr_lt ha
  simp [ones, Ends, ha, nl this, cells, hr, lk hl]
  repeat first | exact Fwd.refl _ _ | refine Fwd.new ?_ _ | refine Fwd.set ?_ _ (.inr (by omega))
theorem queue_new {s a b q r o z : Int} (h : Hp) (hq : 1 ≤ q ∧ q ≤ 4096) (ho : 1 ≤ o ∧ o ≤ 4096) : WA (C0 n_queue_New [.agg (cells s a b q r o z)] h) (NewP h) := by
  refine call_W noExt_mono (f := n_queue_New) rfl rfl ?_
  have h1 : ¬ q < 1 := by omega
  have h2 : ¬ 4096 < q := by omega
  have h3 : ¬ o < 1 := by omega
  have h4 : ¬ 4096 < o := by omega
  simp [ones, h1, h2, h3, h4, Ends, cells]
  exact ⟨_, rfl, by repeat first | exact Fwd.refl _ _ | refine Fwd.new ?_ _⟩
end Dk.N
