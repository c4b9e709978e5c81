/- The tokens of a text, in plain words. -/
import Derived.Test.YtalodgghnpnnkaaDoorLexP
set_option linter.unusedVariables false
set_option linter.unusedSimpArgs false
set_option linter.unusedSectionVars false
namespace Dk.M
open Go Dk
def toksF : Nat → Nat → List UInt8 → List Tok × Nat
 | 0, a, _ => ([], a)
 | _ + 1, a, [] => ([], a)
 | n + 1, a, c :: r => if blankB c = true then toksF n (a + 1) r else match tokL (c :: r) with
  | none => ([], a)
  | some (k, m, x) => (⟨k, a, (c :: r).take m, x⟩ :: (toksF n (a + m) ((c :: r).drop m)).1, (toksF n (a + m) ((c :: r).drop m)).2)
theorem toksF_eq : ∀ (n m a : Nat) (l : List UInt8), l.length ≤ n → l.length ≤ m → toksF n a l = toksF m a l
 | 0, 0, _, _, _, _ => rfl
 | 0, m + 1, a, l, h, _ => by
  have : l = [] := List.length_eq_zero_iff.1 (by omega)
  subst this
  rfl
 | n + 1, 0, a, l, _, h => by
  have : l = [] := List.length_eq_zero_iff.1 (by omega)
  subst this
  rfl
 | n + 1, m + 1, a, [], _, _ => rfl
 | n + 1, m + 1, a, c :: r, h, h' => by
  simp only [List.length_cons] at h h'
  simp only [toksF]
  split
  · exact toksF_eq n m _ _ (by omega) (by omega)
  · split
    · rfl
    · rename_i k q x ht
      have hq := tokL_len ht
      simp only [List.length_cons] at hq
      rw [toksF_eq n m (a + q) ((c :: r).drop q) (by simp; omega) (by simp; omega)]
def toks (a : Nat) (l : List UInt8) : List Tok × Nat := toksF l.length a l
theorem toks_nil (a : Nat) : toks a [] = ([], a) := rfl
theorem toks_blank (a : Nat) {c : UInt8} (r : List UInt8) (h : blankB c = true) : toks a (c :: r) = toks (a + 1) r := by
 simp only [toks, List.length_cons, toksF, h, if_true]
theorem toks_none (a : Nat) {c : UInt8} {r : List UInt8} (h : blankB c = false) (ht : tokL (c :: r) = none) : toks a (c :: r) = ([], a) := by
 simp only [toks, List.length_cons, toksF, h, ht]
 rfl
theorem toks_some (a : Nat) {c : UInt8} {r : List UInt8} (h : blankB c = false) {k x : Int} {m : Nat} (ht : tokL (c :: r) = some (k, m, x)) :
 toks a (c :: r) = (⟨k, a, (c :: r).take m, x⟩ :: (toks (a + m) ((c :: r).drop m)).1, (toks (a + m) ((c :: r).drop m)).2) := by
 have hq := tokL_len ht
 simp only [List.length_cons] at hq
 simp only [toks, List.length_cons, toksF, h, ht]
 rw [toksF_eq r.length ((c :: r).drop m).length (a + m) ((c :: r).drop m) (by simp; omega) (by simp)]
 rfl
theorem toks_skip : ∀ (a : Nat) (l : List UInt8), toks a l = toks (a + runN blankB l) (l.drop (runN blankB l))
 | a, [] => rfl
 | a, c :: r => by
  by_cases h : blankB c = true
  · rw [toks_blank a r h, toks_skip (a + 1) r]
    simp only [runN, h, if_true, List.drop_succ_cons]
    rw [show a + 1 + runN blankB r = a + (runN blankB r + 1) by omega]
  · simp only [runN, h]
    rfl
theorem runN_stop {p : UInt8 → Bool} : ∀ {l : List UInt8} {c : UInt8} {r : List UInt8}, l.drop (runN p l) = c :: r → p c = false
 | [], _, _, h => by simp [runN] at h
 | d :: l, c, r, h => by
  unfold runN at h
  split at h
  · exact runN_stop (l := l) (by simpa using h)
  · rename_i q
    simp at h
    rw [← h.1]
    simpa using q
def lexR (l : List UInt8) : List Tok × Int × Int :=
 match (toks 0 l).1[200]? with
 | some t => ([], t.at_, 12)
 | none => if (toks 0 l).2 < l.length then ([], (toks 0 l).2, 10) else ((toks 0 l).1, l.length, 0)
end Dk.M
