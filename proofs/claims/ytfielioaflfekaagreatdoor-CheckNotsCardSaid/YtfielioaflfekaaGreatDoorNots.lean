/- A condition that names an element that is Not: all cases together. -/
import Derived.Test.YtfielioaflfekaaGreatDoorNot1
import Derived.Test.YtfielioaflfekaaGreatDoorNot2
import Derived.Test.YtfielioaflfekaaGreatDoorNot3
import Derived.Test.YtfielioaflfekaaGreatDoorNot4
set_option linter.unusedVariables false
set_option linter.unusedSimpArgs false
set_option linter.unusedSectionVars false
namespace Dk.K
open Go Dk
variable [Mx]
theorem fine {n j k : Int} (h : 3 ≤ n ∧ n < 7) (hj : 0 ≤ j ∧ j < n - 2) (hk : 0 ≤ k ∧ k < n) : Fine n j k := by
  have hn : n = 3 ∨ n = 4 ∨ n = 5 ∨ n = 6 := by omega
  rcases hn with rfl | rfl | rfl | rfl
  · have hj4 : j = 0 := by omega
    have hk4 : k = 0 ∨ k = 1 ∨ k = 2 := by omega
    subst hj4
    rcases hk4 with rfl | rfl | rfl
    · exact fine_3_0_0
    · exact fine_3_0_1
    · exact fine_3_0_2
  · have hj4 : j = 0 ∨ j = 1 := by omega
    have hk4 : k = 0 ∨ k = 1 ∨ k = 2 ∨ k = 3 := by omega
    rcases hj4 with rfl | rfl
    · rcases hk4 with rfl | rfl | rfl | rfl
      · exact fine_4_0_0
      · exact fine_4_0_1
      · exact fine_4_0_2
      · exact fine_4_0_3
    · rcases hk4 with rfl | rfl | rfl | rfl
      · exact fine_4_1_0
      · exact fine_4_1_1
      · exact fine_4_1_2
      · exact fine_4_1_3
  · have hj4 : j = 0 ∨ j = 1 ∨ j = 2 := by omega
    have hk4 : k = 0 ∨ k = 1 ∨ k = 2 ∨ k = 3 ∨ k = 4 := by omega
    rcases hj4 with rfl | rfl | rfl
    · rcases hk4 with rfl | rfl | rfl | rfl | rfl
      · exact fine_5_0_0
      · exact fine_5_0_1
      · exact fine_5_0_2
      · exact fine_5_0_3
      · exact fine_5_0_4
    · rcases hk4 with rfl | rfl | rfl | rfl | rfl
      · exact fine_5_1_0
      · exact fine_5_1_1
      · exact fine_5_1_2
      · exact fine_5_1_3
      · exact fine_5_1_4
    · rcases hk4 with rfl | rfl | rfl | rfl | rfl
      · exact fine_5_2_0
      · exact fine_5_2_1
      · exact fine_5_2_2
      · exact fine_5_2_3
      · exact fine_5_2_4
  · have hj4 : j = 0 ∨ j = 1 ∨ j = 2 ∨ j = 3 := by omega
    have hk4 : k = 0 ∨ k = 1 ∨ k = 2 ∨ k = 3 ∨ k = 4 ∨ k = 5 := by omega
    rcases hj4 with rfl | rfl | rfl | rfl
    · rcases hk4 with rfl | rfl | rfl | rfl | rfl | rfl
      · exact fine_6_0_0
      · exact fine_6_0_1
      · exact fine_6_0_2
      · exact fine_6_0_3
      · exact fine_6_0_4
      · exact fine_6_0_5
    · rcases hk4 with rfl | rfl | rfl | rfl | rfl | rfl
      · exact fine_6_1_0
      · exact fine_6_1_1
      · exact fine_6_1_2
      · exact fine_6_1_3
      · exact fine_6_1_4
      · exact fine_6_1_5
    · rcases hk4 with rfl | rfl | rfl | rfl | rfl | rfl
      · exact fine_6_2_0
      · exact fine_6_2_1
      · exact fine_6_2_2
      · exact fine_6_2_3
      · exact fine_6_2_4
      · exact fine_6_2_5
    · rcases hk4 with rfl | rfl | rfl | rfl | rfl | rfl
      · exact fine_6_3_0
      · exact fine_6_3_1
      · exact fine_6_3_2
      · exact fine_6_3_3
      · exact fine_6_3_4
      · exact fine_6_3_5
theorem nots_ok (a b c : Int) (ha : -9223372036854775808 ≤ a ∧ a < 9223372036854775808) (hb : -9223372036854775808 ≤ b ∧ b < 9223372036854775808) (hc : -9223372036854775808 ≤ c ∧ c < 9223372036854775808) : C0 n_sibyllaw04_CheckNots [eI a, eI b, eI c] ⟨[], 0⟩ = some (eB true, ⟨[], 0⟩) := by
  refine call_loc noExt_mono (f := n_sibyllaw04_CheckNots) (b := ckAll) rfl rfl rfl fun h0 e0 el => ?_
  obtain ⟨os, lim⟩ := h0
  simp at e0 el
  subst e0 el
  have bounds : ∀ (x m : Int), 0 < m → -m < x.tmod m ∧ x.tmod m < m := fun x m hm => ⟨Int.lt_tmod_of_pos _ hm, Int.tmod_lt_of_pos _ hm⟩
  obtain ⟨a1, a2⟩ := bounds a 4 (by omega)
  have wa : IntKind.i64.wrap (a.tmod 4 + 4) = a.tmod 4 + 4 := wrap64 (by omega) (by omega)
  obtain ⟨r, hr⟩ : ∃ r, (a.tmod 4 + 4).tmod 4 = r := ⟨_, rfl⟩
  have r1 : 0 ≤ r := by rw [← hr]; exact Int.tmod_nonneg _ (by omega)
  have r2 : r < 4 := by rw [← hr]; exact Int.tmod_lt_of_pos _ (by omega)
  have wr : IntKind.i64.wrap (3 + r) = 3 + r := wrap64 (by omega) (by omega)
  obtain ⟨n, hn⟩ : ∃ n, 3 + r = n := ⟨_, rfl⟩
  have wn : IntKind.i64.wrap (n - 2) = n - 2 := wrap64 (by omega) (by omega)
  have wn0 : IntKind.i64.wrap n = n := wrap64 (by omega) (by omega)
  have n0 : ¬ n - 2 = 0 := by omega
  obtain ⟨b1, b2⟩ := bounds b (n - 2) (by omega)
  have wb : IntKind.i64.wrap (b.tmod (n - 2) + n) = b.tmod (n - 2) + n := wrap64 (by omega) (by omega)
  have wb2 : IntKind.i64.wrap (b.tmod (n - 2) + n - 2) = b.tmod (n - 2) + n - 2 := wrap64 (by omega) (by omega)
  obtain ⟨j, hj⟩ : ∃ j, (b.tmod (n - 2) + n - 2).tmod (n - 2) = j := ⟨_, rfl⟩
  have j1 : 0 ≤ j := by rw [← hj]; exact Int.tmod_nonneg _ (by omega)
  have j2 : j < n - 2 := by rw [← hj]; exact Int.tmod_lt_of_pos _ (by omega)
  have wj : IntKind.i64.wrap (1 + j) = 1 + j := wrap64 (by omega) (by omega)
  have n1 : ¬ n = 0 := by omega
  obtain ⟨c1, c2⟩ := bounds c n (by omega)
  have wc : IntKind.i64.wrap (c.tmod n + n) = c.tmod n + n := wrap64 (by omega) (by omega)
  obtain ⟨k, hk⟩ : ∃ k, (c.tmod n + n).tmod n = k := ⟨_, rfl⟩
  have k1 : 0 ≤ k := by rw [← hk]; exact Int.tmod_nonneg _ (by omega)
  have k2 : k < n := by rw [← hk]; exact Int.tmod_lt_of_pos _ (by omega)
  simp only [ckAll]
  simp
  refine PutA_eq awake_ok ?_
  simp [wa, hr, wr, hn, wn, wn0, n0, wb, wb2, hj, wj, n1, wc, hk]
  exact rest_case (fine (n := n) ⟨by omega, by omega⟩ ⟨j1, j2⟩ ⟨k1, k2⟩ a b c r)
theorem checkNots_D : ∀ xss, Typed [([.int .i64], false), ([.int .i64], false), ([.int .i64], false)] xss → C0 n_sibyllaw04_CheckNots (argsEV [([.int .i64], false), ([.int .i64], false), ([.int .i64], false)] xss) ⟨[], 0⟩ = some (eB true, ⟨[], 0⟩) := by
  intro xss h
  simp only [Typed, PTs, PT] at h
  obtain ⟨_, _, rfl, ⟨_, _, rfl, ⟨a, rfl, ha⟩, rfl⟩, ⟨_, _, rfl, ⟨_, _, rfl, ⟨b, rfl, hb⟩, rfl⟩, ⟨_, _, rfl, ⟨_, _, rfl, ⟨c, rfl, hc⟩, rfl⟩, rfl⟩⟩⟩ := h
  have e1 : IntKind.i64.min = -9223372036854775808 := by decide
  have e2 : IntKind.i64.max = 9223372036854775807 := by decide
  rw [e1, e2] at ha hb hc
  exact nots_ok a b c ⟨ha.1, by omega⟩ ⟨hb.1, by omega⟩ ⟨hc.1, by omega⟩
end Dk.K
