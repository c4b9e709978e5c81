/- Engines: of which config there is a log; what New makes. -/
import Derived.Test.YtfibhjillbichaaGreatDoorAwake
set_option linter.unusedVariables false
set_option linter.unusedSimpArgs false
set_option linter.unusedSectionVars false
namespace Dk.N
open Go Dk

def cells (s a b q r o f : Int) : List EV := [eI s, eI a, eI b, eI q, eI r, eI o, eI f]
def RightP (s a b q r o f : Int) : Prop := (1 ≤ s ∧ s ≤ 15) ∧ (1 ≤ a ∧ a ≤ 4096) ∧ (1 ≤ b ∧ b ≤ 4096) ∧ (1 ≤ q ∧ q ≤ 4096) ∧ (1 ≤ r ∧ r ≤ 4096) ∧ (1 ≤ o ∧ o ≤ 4096) ∧ (1 ≤ f ∧ f ≤ 1099511627776)
structure RI (id : Nat) (H1 : Hp) (a b q r o : Int) (k : Nat) (f : Fr) (h : Hp) (i : Nat) : Prop where
  le : i ≤ 5
  k : k = 5 - i
  g1 : f.get 1 = .ptr id 0 0 0
  g15 : f.get 15 = .agg [eI a, eI b, eI q, eI r, eI o]
  g16 : f.get 16 = eI i
  h : h = H1
  p0 : 0 < i → 1 ≤ a ∧ a ≤ 4096
  p1 : 1 < i → 1 ≤ b ∧ b ≤ 4096
  p2 : 2 < i → 1 ≤ q ∧ q ≤ 4096
  p3 : 3 < i → 1 ≤ r ∧ r ≤ 4096
  p4 : 4 < i → 1 ≤ o ∧ o ≤ 4096
theorem ix5 : idx (eI 0) 5 = some 0 ∧ idx (eI 1) 5 = some 1 ∧ idx (eI 2) 5 = some 2 ∧ idx (eI 3) 5 = some 3 ∧ idx (eI 4) 5 = some 4 := ⟨rfl, rfl, rfl, rfl, rfl⟩
theorem lk {l n : Nat} (h : l ≤ n) : (∀ k, (l ≤ n + k) = True) ∧ (l ≤ n) = True := ⟨fun k => eq_true (by omega), eq_true h⟩
theorem logRight_ok {s a b q r o f : Int} (h : Hp) {d : Bool} (hd : d = true ↔ RightP s a b q r o f) : C0 n_log_Right [.agg (cells s a b q r o f)] h = some (eB d, h) := by
  refine call_loc noExt_mono (f := n_log_Right) rfl rfl rfl fun h0 e0 el => ?_
  simp [cells, ones]
  refine Run_loop (fun k fr h => ∃ i, RI h0.objs.length (h0.new (.cells ⟨0, 7, true, 0, [[eI s, eI a, eI b, eI q, eI r, eI o, eI f]]⟩)) a b q r o k fr h i) (n := 5) ?_ ?_
  · exact ⟨0, by omega, rfl, by simp, by simp, by simp, rfl, by omega, by omega, by omega, by omega, by omega⟩
  rintro k fr hh ⟨i, I⟩
  obtain ⟨i1, i2, g1, g15, g16, rfl, p0, p1, p2, p3, p4⟩ := I
  have hc : i = 0 ∨ i = 1 ∨ i = 2 ∨ i = 3 ∨ i = 4 ∨ i = 5 := by omega
  have no : ¬ RightP s a b q r o f → d = false := fun hn => by cases d with | false => rfl | true => exact absurd (hd.1 rfl) hn
  rcases hc with rfl | rfl | rfl | rfl | rfl | rfl
  · by_cases h1 : a < 1
    · have := no (fun hR => by unfold RightP at hR; omega)
      simp [g1, g15, g16, h1, Ends, this, ix5]
    · by_cases h2 : 4096 < a
      · have := no (fun hR => by unfold RightP at hR; omega)
        simp [g1, g15, g16, h1, h2, Ends, this, ix5]
      · simp [g1, g15, g16, h1, h2, ix5]
        exact ⟨_, by rw [i2]; decide, 1, by omega, rfl, by simp, by simp, by simp; exact wrap64 (by omega) (by omega), rfl, by omega, by omega, by omega, by omega, by omega⟩
  · by_cases h1 : b < 1
    · have := no (fun hR => by unfold RightP at hR; omega)
      simp [g1, g15, g16, h1, Ends, this, ix5]
    · by_cases h2 : 4096 < b
      · have := no (fun hR => by unfold RightP at hR; omega)
        simp [g1, g15, g16, h1, h2, Ends, this, ix5]
      · simp [g1, g15, g16, h1, h2, ix5]
        exact ⟨_, by rw [i2]; decide, 2, by omega, rfl, by simp, by simp, by simp; exact wrap64 (by omega) (by omega), rfl, by omega, by omega, by omega, by omega, by omega⟩
  · by_cases h1 : q < 1
    · have := no (fun hR => by unfold RightP at hR; omega)
      simp [g1, g15, g16, h1, Ends, this, ix5]
    · by_cases h2 : 4096 < q
      · have := no (fun hR => by unfold RightP at hR; omega)
        simp [g1, g15, g16, h1, h2, Ends, this, ix5]
      · simp [g1, g15, g16, h1, h2, ix5]
        exact ⟨_, by rw [i2]; decide, 3, by omega, rfl, by simp, by simp, by simp; exact wrap64 (by omega) (by omega), rfl, by omega, by omega, by omega, by omega, by omega⟩
  · by_cases h1 : r < 1
    · have := no (fun hR => by unfold RightP at hR; omega)
      simp [g1, g15, g16, h1, Ends, this, ix5]
    · by_cases h2 : 4096 < r
      · have := no (fun hR => by unfold RightP at hR; omega)
        simp [g1, g15, g16, h1, h2, Ends, this, ix5]
      · simp [g1, g15, g16, h1, h2, ix5]
        exact ⟨_, by rw [i2]; decide, 4, by omega, rfl, by simp, by simp, by simp; exact wrap64 (by omega) (by omega), rfl, by omega, by omega, by omega, by omega, by omega⟩
  · by_cases h1 : o < 1
    · have := no (fun hR => by unfold RightP at hR; omega)
      simp [g1, g15, g16, h1, Ends, this, ix5]
    · by_cases h2 : 4096 < o
      · have := no (fun hR => by unfold RightP at hR; omega)
        simp [g1, g15, g16, h1, h2, Ends, this, ix5]
      · simp [g1, g15, g16, h1, h2, ix5]
        exact ⟨_, by rw [i2]; decide, 5, by omega, rfl, by simp, by simp, by simp; exact wrap64 (by omega) (by omega), rfl, by omega, by omega, by omega, by omega, by omega⟩
  · by_cases c1 : 1 ≤ s
    · by_cases c2 : s ≤ 15
      · by_cases c3 : 1 ≤ f
        · by_cases c4 : f ≤ 1099511627776
          · have : d = true := hd.2 (by unfold RightP; omega)
            simp [g1, g15, g16, c1, c2, c3, c4, Ends, this]
          · have := no (fun hR => by unfold RightP at hR; omega)
            simp [g1, g15, g16, c1, c2, c3, c4, Ends, this]
        · have := no (fun hR => by unfold RightP at hR; omega)
          simp [g1, g15, g16, c1, c2, c3, Ends, this]
      · have := no (fun hR => by unfold RightP at hR; omega)
        simp [g1, g15, g16, c1, c2, Ends, this]
    · have := no (fun hR => by unfold RightP at hR; omega)
      simp [g1, g15, g16, c1, Ends, this]

theorem ixp5 (id : Nat) : ixpAt 5 1 (.ptr id 0 0 0) (eI 0) = some (.ptr id 0 0 0) ∧ ixpAt 5 1 (.ptr id 0 0 0) (eI 1) = some (.ptr id 0 0 1) ∧ ixpAt 5 1 (.ptr id 0 0 0) (eI 2) = some (.ptr id 0 0 2) ∧ ixpAt 5 1 (.ptr id 0 0 0) (eI 3) = some (.ptr id 0 0 3) ∧ ixpAt 5 1 (.ptr id 0 0 0) (eI 4) = some (.ptr id 0 0 4) := ⟨rfl, rfl, rfl, rfl, rfl⟩
structure RJ (id id2 : Nat) (s a b q r o z : Int) (k : Nat) (fr : Fr) (h : Hp) (i : Nat) : Prop where
  le : i ≤ 5
  k : k = 5 - i
  g1 : fr.get 1 = .ptr id 0 0 0
  g3 : fr.get 3 = .ptr id2 0 0 0
  g4 : fr.get 4 = eI i
  a1 : h.arr id 0 = some ⟨0, 7, true, 0, [[eI s, eI a, eI b, eI q, eI r, eI o, eI z]]⟩
  a2 : h.arr id2 0 = some ⟨0, 5, true, 0, [[eI a, eI b, eI q, eI r, eI o]]⟩
  p0 : 0 < i → 1 ≤ a ∧ a ≤ 4096
  p1 : 1 < i → 1 ≤ b ∧ b ≤ 4096
  p2 : 2 < i → 1 ≤ q ∧ q ≤ 4096
  p3 : 3 < i → 1 ≤ r ∧ r ≤ 4096
  p4 : 4 < i → 1 ≤ o ∧ o ≤ 4096
theorem refRight_ok {s a b q r o f : Int} (h : Hp) {d : Bool} (hd : d = true ↔ RightP s a b q r o f) : C0 n_sibylref19_Right [.agg (cells s a b q r o f)] h = some (eB d, h) := by
  refine call_loc noExt_mono (f := n_sibylref19_Right) rfl rfl rfl fun h0 e0 el => ?_
  simp [cells, ones, el]
  refine Run_loop (fun k fr h => ∃ i, RJ h0.objs.length (h0.objs.length + 1) s a b q r o f k fr h i) (n := 5) ?_ ?_
  · exact ⟨0, by omega, rfl, by simp, by simp, by simp, by simp, by simp, by omega, by omega, by omega, by omega, by omega⟩
  rintro k fr hh ⟨i, I⟩
  obtain ⟨i1, i2, g1, g3, g4, a1, a2, p0, p1, p2, p3, p4⟩ := I
  have hc : i = 0 ∨ i = 1 ∨ i = 2 ∨ i = 3 ∨ i = 4 ∨ i = 5 := by omega
  have no : ¬ RightP s a b q r o f → d = false := fun hn => by cases d with | false => rfl | true => exact absurd (hd.1 rfl) hn
  rcases hc with rfl | rfl | rfl | rfl | rfl | rfl
  · by_cases h1 : a < 1
    · have := no (fun hR => by unfold RightP at hR; omega)
      simp [g1, g3, g4, a1, a2, h1, Ends, this, ixp5]
    · by_cases h2 : 4096 < a
      · have := no (fun hR => by unfold RightP at hR; omega)
        simp [g1, g3, g4, a1, a2, h1, h2, Ends, this, ixp5]
      · simp [g1, g3, g4, a1, a2, h1, h2, ixp5]
        exact ⟨_, by rw [i2]; decide, 1, by omega, rfl, by simp, by simp, by simp; exact wrap64 (by omega) (by omega), a1, a2, by omega, by omega, by omega, by omega, by omega⟩
  · by_cases h1 : b < 1
    · have := no (fun hR => by unfold RightP at hR; omega)
      simp [g1, g3, g4, a1, a2, h1, Ends, this, ixp5]
    · by_cases h2 : 4096 < b
      · have := no (fun hR => by unfold RightP at hR; omega)
        simp [g1, g3, g4, a1, a2, h1, h2, Ends, this, ixp5]
      · simp [g1, g3, g4, a1, a2, h1, h2, ixp5]
        exact ⟨_, by rw [i2]; decide, 2, by omega, rfl, by simp, by simp, by simp; exact wrap64 (by omega) (by omega), a1, a2, by omega, by omega, by omega, by omega, by omega⟩
  · by_cases h1 : q < 1
    · have := no (fun hR => by unfold RightP at hR; omega)
      simp [g1, g3, g4, a1, a2, h1, Ends, this, ixp5]
    · by_cases h2 : 4096 < q
      · have := no (fun hR => by unfold RightP at hR; omega)
        simp [g1, g3, g4, a1, a2, h1, h2, Ends, this, ixp5]
      · simp [g1, g3, g4, a1, a2, h1, h2, ixp5]
        exact ⟨_, by rw [i2]; decide, 3, by omega, rfl, by simp, by simp, by simp; exact wrap64 (by omega) (by omega), a1, a2, by omega, by omega, by omega, by omega, by omega⟩
  · by_cases h1 : r < 1
    · have := no (fun hR => by unfold RightP at hR; omega)
      simp [g1, g3, g4, a1, a2, h1, Ends, this, ixp5]
    · by_cases h2 : 4096 < r
      · have := no (fun hR => by unfold RightP at hR; omega)
        simp [g1, g3, g4, a1, a2, h1, h2, Ends, this, ixp5]
      · simp [g1, g3, g4, a1, a2, h1, h2, ixp5]
        exact ⟨_, by rw [i2]; decide, 4, by omega, rfl, by simp, by simp, by simp; exact wrap64 (by omega) (by omega), a1, a2, by omega, by omega, by omega, by omega, by omega⟩
  · by_cases h1 : o < 1
    · have := no (fun hR => by unfold RightP at hR; omega)
      simp [g1, g3, g4, a1, a2, h1, Ends, this, ixp5]
    · by_cases h2 : 4096 < o
      · have := no (fun hR => by unfold RightP at hR; omega)
        simp [g1, g3, g4, a1, a2, h1, h2, Ends, this, ixp5]
      · simp [g1, g3, g4, a1, a2, h1, h2, ixp5]
        exact ⟨_, by rw [i2]; decide, 5, by omega, rfl, by simp, by simp, by simp; exact wrap64 (by omega) (by omega), a1, a2, by omega, by omega, by omega, by omega, by omega⟩
  · by_cases c1 : 1 ≤ s
    · by_cases c2 : s ≤ 15
      · by_cases c3 : 1 ≤ f
        · by_cases c4 : f ≤ 1099511627776
          · have : d = true := hd.2 (by unfold RightP; omega)
            simp [g1, g3, g4, a1, c1, c2, c3, c4, Ends, this]
          · have := no (fun hR => by unfold RightP at hR; omega)
            simp [g1, g3, g4, a1, c1, c2, c3, c4, Ends, this]
        · have := no (fun hR => by unfold RightP at hR; omega)
          simp [g1, g3, g4, a1, c1, c2, c3, Ends, this]
      · have := no (fun hR => by unfold RightP at hR; omega)
        simp [g1, g3, g4, a1, c1, c2, Ends, this]
    · have := no (fun hR => by unfold RightP at hR; omega)
      simp [g1, g3, g4, a1, c1, Ends, this]
end Dk.N
