/- Of all hits that were made one, each query sees those that are its own, as they came. -/
import Derived.Test.YtcbigcpdbidlaaaLaw
set_option linter.unusedVariables false
set_option linter.unusedSimpArgs false
set_option linter.unusedSectionVars false
namespace Dk.Q
open Go Dk

def atK (k : Int) (l : List Hit) : List Hit := l.filter fun x => decide (x.id = k)
theorem bestN_min (rows : List (List Hit)) : ∀ i, (bestN rows i < 0 → ∀ (j : Nat) z r, j < i → rows[j]? = some (z :: r) → False) ∧
    (0 ≤ bestN rows i → ∃ y r', rows[(bestN rows i).toNat]? = some (y :: r') ∧ ∀ (j : Nat) z r, j < i → rows[j]? = some (z :: r) → y.id ≤ z.id ∧ ((j : Int) < bestN rows i → y.id < z.id))
  | 0 => ⟨fun _ j z r h _ => by omega, fun h => by simp [bestN] at h⟩
  | i + 1 => by
    obtain ⟨h1, h2⟩ := bestN_min rows i
    obtain ⟨b1, b2, b3⟩ := bestN_ok rows i
    have skip : bestN rows (i + 1) = bestN rows i → (∀ z r, rows[i]? ≠ some (z :: r)) → (bestN rows (i + 1) < 0 → ∀ (j : Nat) z r, j < i + 1 → rows[j]? = some (z :: r) → False) ∧
        (0 ≤ bestN rows (i + 1) → ∃ y r', rows[(bestN rows (i + 1)).toNat]? = some (y :: r') ∧ ∀ (j : Nat) z r, j < i + 1 → rows[j]? = some (z :: r) → y.id ≤ z.id ∧ ((j : Int) < bestN rows (i + 1) → y.id < z.id)) := by
      intro e hn
      rw [e]
      refine ⟨fun h j z r hj hz => ?_, fun h => ?_⟩
      · by_cases q : j = i
        · subst q; exact hn z r hz
        · exact h1 h j z r (by omega) hz
      · obtain ⟨y, r', hy, ha⟩ := h2 h
        refine ⟨y, r', hy, fun j z r hj hz => ?_⟩
        by_cases q : j = i
        · subst q; exact absurd hz (hn z r)
        · exact ha j z r (by omega) hz
    cases hr : rows[i]? with
    | none => exact skip (by simp [bestN, hr]) (by simp [hr])
    | some row =>
      cases row with
      | nil => exact skip (by simp [bestN, hr]) (by simp [hr])
      | cons x r0 =>
        by_cases hb : bestN rows i < 0
        · have e : bestN rows (i + 1) = i := by simp [bestN, hr, hb]
          rw [e]
          refine ⟨fun h => by omega, fun _ => ⟨x, r0, by simpa using hr, fun j z r hj hz => ?_⟩⟩
          by_cases q : j = i
          · subst q
            rw [hr] at hz
            cases hz
            exact ⟨Int.le_refl _, fun h => by omega⟩
          · exact (h1 hb j z r (by omega) hz).elim
        · obtain ⟨y, r', hy, ha⟩ := h2 (by omega)
          by_cases hxy : x.id < y.id
          · have e : bestN rows (i + 1) = i := by simp [bestN, hr, hb, hy, hxy]
            rw [e]
            refine ⟨fun h => by omega, fun _ => ⟨x, r0, by simpa using hr, fun j z r hj hz => ?_⟩⟩
            by_cases q : j = i
            · subst q
              rw [hr] at hz
              cases hz
              exact ⟨Int.le_refl _, fun h => by omega⟩
            · have := (ha j z r (by omega) hz).1
              exact ⟨by omega, fun _ => by omega⟩
          · have e : bestN rows (i + 1) = bestN rows i := by simp [bestN, hr, hb, hy, hxy]
            rw [e]
            refine ⟨fun h => by omega, fun _ => ⟨y, r', hy, fun j z r hj hz => ?_⟩⟩
            by_cases q : j = i
            · subst q
              rw [hr] at hz
              cases hz
              exact ⟨by omega, fun h => by omega⟩
            · exact ha j z r (by omega) hz

theorem atK_nil {k : Int} {l : List Hit} (hs : Sorted l) (h : ∀ z r, l = z :: r → k < z.id) : atK k l = [] := by
  cases l with
  | nil => rfl
  | cons z r =>
    have h1 := h z r rfl
    refine List.filter_eq_nil_iff.2 fun y hy => ?_
    have : z.id ≤ y.id := by
      rcases List.mem_cons.1 hy with rfl | hy
      · exact Int.le_refl _
      · exact (List.pairwise_cons.1 hs).1 y hy
    simp
    omega
theorem flat_empty {k : Int} : ∀ {rows : List (List Hit)}, (∀ (j : Nat) z r, rows[j]? = some (z :: r) → False) → rows.flatMap (atK k) = []
  | [], _ => rfl
  | l :: rows, h => by
    have h1 : l = [] := by
      cases l with
      | nil => rfl
      | cons z r => exact (h 0 z r (by simp)).elim
    subst h1
    simpa [atK] using flat_empty (rows := rows) fun j z r q => h (j + 1) z r (by simpa using q)

theorem mergeF_at (k : Int) : ∀ (n : Nat) (rows : List (List Hit)), (∀ l ∈ rows, Sorted l) → total rows ≤ n → atK k (mergeF n rows) = rows.flatMap (atK k)
  | 0, rows, _, hn => by
    refine (flat_empty fun j z r q => ?_).symm
    have := total_step q
    omega
  | n + 1, rows, hs, hn => by
    obtain ⟨m1, m2⟩ := bestN_min rows rows.length
    simp only [mergeF]
    by_cases hb : bestN rows rows.length < 0
    · have e : stepM rows = none := by simp [stepM, hb]
      rw [e]
      refine (flat_empty fun j z r q => m1 hb j z r (List.getElem?_eq_some_iff.1 q).1 q).symm
    · obtain ⟨x, r, hx, ha⟩ := m2 (by omega)
      have e : stepM rows = some (x, rows.set (bestN rows rows.length).toNat r) := by simp [stepM, hb, hx]
      rw [e]
      simp only
      have hlen := (List.getElem?_eq_some_iff.1 hx).1
      have hb2 : ((bestN rows rows.length).toNat : Int) = bestN rows rows.length := by omega
      generalize (bestN rows rows.length).toNat = b at *
      have st := total_step hx
      have es : rows = rows.take b ++ (x :: r) :: rows.drop (b + 1) := by
        have := (List.getElem?_eq_some_iff.1 hx).2
        rw [← this, List.getElem_cons_drop, List.take_append_drop]
      have es2 : rows.set b r = rows.take b ++ r :: rows.drop (b + 1) := by rw [List.set_eq_take_append_cons_drop, if_pos hlen]
      have hsx : Sorted (x :: r) := hs _ (List.mem_of_getElem? hx)
      have ih := mergeF_at k n (rows.set b r) (fun l hl => by
        rcases List.mem_or_eq_of_mem_set hl with q | rfl
        · exact hs l q
        · exact (List.pairwise_cons.1 hsx).2) (by omega)
      have hc : ∀ l : List Hit, atK k (x :: l) = if x.id = k then x :: atK k l else atK k l := fun l => by
        by_cases q : x.id = k <;> simp [atK, q]
      rw [hc, ih, es2]
      conv => rhs; rw [es]
      simp only [List.flatMap_append, List.flatMap_cons, hc]
      by_cases q : x.id = k
      · rw [if_pos q, if_pos q]
        have hz : (rows.take b).flatMap (atK k) = [] := by
          refine List.flatMap_eq_nil_iff.2 fun l hl => ?_
          obtain ⟨j, hj, rfl⟩ := List.mem_iff_getElem.1 hl
          simp at hj
          rw [List.getElem_take]
          refine atK_nil (hs _ (List.getElem_mem _)) fun z r' hz => ?_
          have := (ha j z r' (by omega) (by rw [List.getElem?_eq_getElem (by omega), hz])).2 (by omega)
          omega
        rw [hz]
        simp
      · rw [if_neg q, if_neg q]
end Dk.Q
