/- query.Name, at D: any text. -/
import Derived.Test.YtalodgghnpnnkaaDoorKwK
import Derived.Test.YtalodgghnpnnkaaDoorLex5
set_option linter.unusedVariables false
set_option linter.unusedSimpArgs false
set_option linter.unusedSectionVars false
namespace Dk.M
open Go Dk
variable [Mx]
theorem tok_small {p : Nat} : ∀ (n : Nat) (a : Nat) (l : List UInt8), l.length ≤ n → ∀ t ∈ (toks a l).1, t.kind = 1 → ∀ c ∈ t.text, c ≠ 32
 | _, a, [], _ => by simp [toks_nil]
 | 0, a, c :: r, h => by simp at h
 | n + 1, a, c :: r, h => by
  simp only [List.length_cons] at h
  by_cases hb : blankB c = true
  · rw [toks_blank a r hb]
    exact tok_small (p := p) n (a + 1) r (by omega)
  · have hb : blankB c = false := by simpa using hb
    cases ht : tokL (c :: r) with
    | none => rw [toks_none a hb ht]; simp
    | some q =>
     obtain ⟨k, m, x⟩ := q
     have hq := tokL_len ht
     simp only [List.length_cons] at hq
     rw [toks_some a hb ht]
     intro t hm hk
     rw [List.mem_cons] at hm
     rcases hm with rfl | hm
     · simp only at hk
       subst hk
       have hw : m = runN wordB (c :: r) := by
        simp only [tokL] at ht
        split at ht
        · cases ht; rfl
        · split at ht
          · split at ht
            · split at ht <;> simp at ht
            · cases ht
          · split at ht
            · split at ht <;> simp at ht
            · split at ht <;> simp at ht
       simp only
       rw [hw]
       intro d hd e
       have := digits_run (p := wordB) (c :: r) d hd
       subst e
       revert this
       decide
     · exact tok_small (p := p) n (a + m) ((c :: r).drop m) (by simp; omega) t hm hk
theorem lexR_small {l : List UInt8} : ∀ t ∈ (lexR l).1, t.kind = 1 → ∀ c ∈ t.text, c ≠ 32 := by
 intro t ht
 have : t ∈ (toks 0 l).1 := by
  unfold lexR at ht
  split at ht
  · simp at ht
  · split at ht
    · simp at ht
    · exact ht
 exact tok_small (p := 0) l.length 0 l (Nat.le_refl _) t this
end Dk.M
