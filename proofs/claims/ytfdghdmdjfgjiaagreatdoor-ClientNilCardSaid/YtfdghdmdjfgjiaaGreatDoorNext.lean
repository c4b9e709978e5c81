/- Numbers that are taken one by one. -/
import Derived.Test.YtfdghdmdjfgjiaaGreatDoorNames
set_option linter.unusedVariables false
set_option linter.unusedSimpArgs false
set_option linter.unusedSectionVars false
namespace Dk.C
open Go Dk

structure RowAt (h : Hp) (rb : Nat) (xs : List Int) (i : Nat) : Prop where
  arr : h.arr rb 0 = some ⟨0, 2, true, 0, [[.p (.list (xs.map iN)), eI i]]⟩
  le : i ≤ xs.length
  lim : h.lim ≤ rb
theorem RowAt.fwd {h h' : Hp} {rb i : Nat} {xs : List Int} (R : RowAt h rb xs i) {ids : List Nat} (f : Fwd ids h h') (hi : rb ∉ ids) : RowAt h' rb xs i :=
  ⟨f.arr R.arr hi, R.le, by rw [f.lim]; exact R.lim⟩
theorem ints_sized (xs : List Int) : sized 1 (xs.map iN) = true := List.all_eq_true.2 fun x hx => by
  obtain ⟨r, _, rfl⟩ := List.mem_map.1 hx
  rfl
theorem rest_lt {x n : Int} (hn : 0 < n) : 0 ≤ (x.tmod n + n).tmod n ∧ (x.tmod n + n).tmod n < n := by
  have h1 : -n < x.tmod n := Int.lt_tmod_of_pos x hn
  exact ⟨Int.tmod_nonneg _ (by omega), Int.tmod_lt_of_pos _ hn⟩
theorem next_ok {h : Hp} {rb i : Nat} {xs : List Int} (R : RowAt h rb xs i) (hx : xs.length ≤ 80) {n : Int} (hn : 0 < n ∧ n < 1000) :
    WA (C0 n_Next [.ptr rb 0 0 0, eI n] h) fun v h' => ∃ k i', v = eI k ∧ 0 ≤ k ∧ k < n ∧ RowAt h' rb xs i' ∧ Fwd [rb] h h' := by
  obtain ⟨a, le, lm⟩ := R
  refine call_W noExt_mono (f := n_Next) rfl rfl ?_
  have lr := arr_lt a
  by_cases hi : (xs.length : Int) ≤ (i : Int)
  · simp [a, hi, nl lr, Ends]
    exact ⟨by omega, ⟨i, a, le, lm⟩, Fwd.refl _ _⟩
  · have hi' : i < xs.length := by omega
    have w1 : IntKind.i64.wrap ((i : Int) + 1) = (i : Int) + 1 := wrap64 (by omega) (by omega)
    have w2 : IntKind.i64.wrap (i : Int) = (i : Int) := wrap64 (by omega) (by omega)
    have hne : ¬ n = 0 := by omega
    have h1 : -n < (xs[i]).tmod n := Int.lt_tmod_of_pos _ hn.1
    have h2 : (xs[i]).tmod n < n := Int.tmod_lt_of_pos _ hn.1
    have w3 : IntKind.i64.wrap ((xs[i]).tmod n + n) = (xs[i]).tmod n + n := wrap64 (by omega) (by omega)
    simp [a, hi, w1, w2, w3, nl lr, lm, ones, hi', hne, Ends]
    obtain ⟨r1, r2⟩ := rest_lt (x := xs[i]) hn.1
    refine ⟨r1, r2, ⟨i + 1, by simp [Hp.arr_set, lr], by omega, by simpa using lm⟩, (Fwd.refl _ _).set _ (by simp)⟩
end Dk.C
