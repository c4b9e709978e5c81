/- Engines: the merger, and the workers, that New makes. -/
import Derived.Test.YtfibhjillbichaaGreatDoorLogNew
set_option linter.unusedVariables false
set_option linter.unusedSimpArgs false
set_option linter.unusedSectionVars false
namespace Dk.N
open Go Dk

theorem merger_new {id : Nat} {h : Hp} (hl : h.lim ≤ h.objs.length) {s a b q r o z : Int} {rest : List EV} (R : RightP s a b q r o z) (ha : h.arr id 0 = some ⟨0, 15, true, 0, [cells s a b q r o z ++ rest]⟩) (hr : rest.length = 8) : WA (C0 n_merger_New [.ptr id 0 0 0] h) (NewP h) := by
  refine call_W noExt_mono (f := n_merger_New) rfl rfl ?_
  have hR := R
  unfold RightP at hR
  simp [ones]
  refine PutA_of (config_ok hl ha hr) ?_
  rintro _ H1 ⟨rfl, f1⟩
  have a1 := f1.arr ha (by simp)
  have L1 := f1.limlen hl
  simp [cells]
  refine PutA_of (config_ok L1 a1 hr) ?_
  rintro _ H2 ⟨rfl, f2⟩
  simp
  refine PutA_of (queue_new _ (by omega) (by omega)) ?_
  rintro _ H3 ⟨i3, rfl, f3⟩
  have F3 := (f1.trans f2).trans f3
  have := F3.lim
  simp [ones, Ends]
  exact ⟨_, rfl, by simpa [← this] using F3.new _⟩
theorem within_ok (x m : Int) (h : Hp) : C0 n_shard_within [eI x, eI m] h = some (eB (decide (1 ≤ x ∧ x ≤ m)), h) := by
  refine call_loc noExt_mono (f := n_shard_within) rfl rfl rfl fun h0 e0 el => ?_
  by_cases h1 : 1 ≤ x
  · by_cases h2 : x ≤ m <;> simp [Ends, h1, h2]
  · simp [Ends, h1]
theorem shard_new {s a b q r o z n : Int} (h : Hp) (R : RightP s a b q r o z) (hn : 0 ≤ n ∧ n < s) : WA (C0 n_shard_New [.agg (cells s a b q r o z), eI n] h) (NewP h) := by
  refine call_W noExt_mono (f := n_shard_New) rfl rfl ?_
  have hR := R
  unfold RightP at hR
  simp [cells, ones]
  refine PutA_eq (within_ok s 15 _) ?_
  have h1 : 1 ≤ s ∧ s ≤ 15 := hR.1
  simp [h1]
  refine PutA_eq (within_ok r 4096 _) ?_
  have h2 : 1 ≤ r ∧ r ≤ 4096 := by omega
  simp [h2]
  refine PutA_eq (within_ok q 4096 _) ?_
  have h3 : 1 ≤ q ∧ q ≤ 4096 := by omega
  have h4 : ¬ n < 0 := by omega
  have h5 : ¬ s ≤ n := by omega
  simp [h3, h4, h5, Ends]
  exact ⟨_, rfl, by repeat first | exact Fwd.refl _ _ | refine Fwd.new ?_ _⟩
theorem worker_new {id : Nat} {h : Hp} (hl : h.lim ≤ h.objs.length) {s a b q r o z n : Int} {rest : List EV} (R : RightP s a b q r o z) (hn : 0 ≤ n ∧ n < s) (ha : h.arr id 0 = some ⟨0, 15, true, 0, [cells s a b q r o z ++ rest]⟩) (hr : rest.length = 8) : WA (C0 n_worker_New [.ptr id 0 0 0, eI n] h) (NewP h) := by
  refine call_W noExt_mono (f := n_worker_New) rfl rfl ?_
  simp [ones]
  refine PutA_of (config_ok hl ha hr) ?_
  rintro _ H1 ⟨rfl, f1⟩
  simp
  refine PutA_of (shard_new _ R hn) ?_
  rintro _ H2 ⟨i2, rfl, f2⟩
  have F2 := f1.trans f2
  have := F2.lim
  simp [ones, Ends]
  exact ⟨_, rfl, by simpa [← this] using F2.new _⟩
theorem clone_nil {h : Hp} : WA (C0 n_slices_Clone [.full []] h) fun v h' => (∃ id, v = .arr id 0 10 0 0 true) ∧ Fwd [] h h' := by
  refine call_W noExt_mono (f := n_slices_Clone) rfl rfl ?_
  simp [appendTo, elsOf, sized, Ends, ones]
  repeat first | exact Fwd.refl _ _ | refine Fwd.new ?_ _
end Dk.N
