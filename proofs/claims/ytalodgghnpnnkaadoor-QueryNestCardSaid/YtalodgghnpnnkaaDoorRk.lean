/- Searching a text in another one (library): where it does not occur, nothing is found. -/
import Derived.Test.YtalodgghnpnnkaaDoorLex1
set_option linter.unusedVariables false
set_option linter.unusedSimpArgs false
set_option linter.unusedSectionVars false
namespace Dk.M
open Go Dk
variable [Mx]
omit [Mx] in
theorem shr_nat (k : IntKind) (a : Nat) (n : Nat) (hn : n ≤ k.bits) : binOp .shr .none (.p (.int k (a : Int))) (.p (.int .u64 (n : Int))) = some (.p (.int k ((a / 2 ^ n : Nat) : Int))) := by
 have : Int.fdiv (a : Int) (2 ^ n) = ((a / 2 ^ n : Nat) : Int) := by
  rw [Int.fdiv_eq_ediv_of_nonneg _ (by exact_mod_cast Nat.zero_le _)]
  norm_cast
 simp [binOp, intShift, Nat.min_eq_left hn, this]
structure HashI (l : List UInt8) (X : Hp) (z : Nat) (fr : Fr) (h : Hp) : Prop where
 ex : ∃ i : Nat, ∃ u : Int, i ≤ l.length ∧ z = l.length - i ∧ h = X ∧ fr.get 0 = .p (.str (mkS l)) ∧ fr.get 4 = .p (.int .u32 u) ∧ fr.get 5 = eI i
structure PowI (X : Hp) (z : Nat) (fr : Fr) (h : Hp) : Prop where
 ex : ∃ i : Nat, ∃ u v w : Int, z = i ∧ h = X ∧ fr.get 4 = .p (.int .u32 u) ∧ fr.get 6 = .p (.int .u32 v) ∧ fr.get 7 = .p (.int .u32 w) ∧ fr.get 8 = eI i
theorem hash_ok (l : List UInt8) (hs : l.length < 2 ^ 62) (h : Hp) (hl : h.lim ≤ h.objs.length) : ∃ v, (∃ a b : Int, v = .tup [.p (.int .u32 a), .p (.int .u32 b)]) ∧ C0 n_internal_bytealg_hashStr [.p (.str (mkS l))] h = some (v, h) := by
 refine call_locX noExt_mono (f := n_internal_bytealg_hashStr) rfl rfl (fun v e => by obtain ⟨a, b, rfl⟩ := e; rfl) fun h0 e0 el => ?_
 simp
 refine Run_loop (HashI l h0) (n := l.length) ⟨0, 0, by omega, by omega, rfl, by simp, by simp, by simp⟩ ?_
 rintro z f1 h1 ⟨i, u, i1, i2, rfl, g0, g4, g5⟩
 by_cases hi : i < l.length
 · have w5 : IntKind.i64.wrap ((i : Int) + 1) = ((i + 1 : Nat) : Int) := by rw [wrap64 (by omega) (by omega)]; simp
   simp [g0, g4, g5, hi, w5]
   exact ⟨l.length - (i + 1), by omega, i + 1, _, by omega, rfl, rfl, by simp [g0], by simp; rfl, by simp⟩
 · simp [g0, g4, g5, hi]
   refine Run_loop (PowI h1) (n := l.length) ⟨l.length, u, 1, 16777619, rfl, rfl, by simp, by simp, by simp, by simp⟩ ?_
   rintro z f2 h2 ⟨k, u, v, w, hz, rfl, g4, g6, g7, g8⟩
   have hsh := shr_nat .i64 k 1 (by decide)
   simp only [Int.natCast_one, Int.cast_ofNat_Int, Nat.pow_one] at hsh
   obtain ⟨y, hy⟩ : ∃ y, binOp .and .none (.p (.int .i64 (k : Int))) (.p (.int .i64 1)) = some (.p (.int .i64 y)) := ⟨_, rfl⟩
   by_cases hk : 0 < k
   · by_cases hy0 : y = 0
     · simp [g4, g6, g7, g8, hk, hy, hy0, hsh]
       exact ⟨k / 2, by omega, k / 2, _, _, _, rfl, rfl, by simp [g4]; rfl, by simp [g6]; rfl, by simp; rfl, by simp⟩
     · simp [g4, g6, g7, g8, hk, hy, hy0, hsh]
       exact ⟨k / 2, by omega, k / 2, _, _, _, rfl, rfl, by simp [g4]; rfl, by simp; rfl, by simp; rfl, by simp⟩
   · have : k = 0 := by omega
     subst this
     simp [g4, g6, g7, g8, Ends]
def Nowhere (t s : List UInt8) : Prop := ∀ i, (t.drop i).take s.length ≠ s
structure Rk1 (t s : List UInt8) (X : Hp) (z : Nat) (fr : Fr) (h : Hp) : Prop where
 ex : ∃ i : Nat, ∃ u v w : Int, i ≤ s.length ∧ z = s.length - i ∧ h = X ∧ fr.get 0 = .p (.str (mkS t)) ∧ fr.get 1 = .p (.str (mkS s)) ∧ fr.get 5 = .p (.int .u32 u) ∧ fr.get 6 = .p (.int .u32 v) ∧ fr.get 7 = eI s.length ∧ fr.get 8 = .p (.int .u32 w) ∧ fr.get 9 = eI i
structure Rk2 (t s : List UInt8) (X : Hp) (z : Nat) (fr : Fr) (h : Hp) : Prop where
 ex : ∃ i : Nat, ∃ u v w : Int, s.length ≤ i ∧ i ≤ t.length ∧ z = t.length - i ∧ h = X ∧ fr.get 0 = .p (.str (mkS t)) ∧ fr.get 1 = .p (.str (mkS s)) ∧ fr.get 5 = .p (.int .u32 u) ∧ fr.get 6 = .p (.int .u32 v) ∧ fr.get 7 = eI s.length ∧ fr.get 8 = .p (.int .u32 w) ∧ fr.get 10 = eI i
omit [Mx] in
theorem sls_mid (l : List UInt8) {a b : Nat} (h1 : a ≤ b) (h2 : b ≤ l.length) : sliceStr (.p (.str (mkS l))) (some (eI a)) (some (eI b)) = some (.p (.str (mkS ((l.drop a).take (b - a))))) := by
 simp [sliceStr, bounds, upper, lower, bound, mkS_ext, h1, h2, List.drop_take]
theorem rk_none {t s : List UInt8} (hst : s.length ≤ t.length) (ht : t.length < 2 ^ 62) (no : Nowhere t s) (h : Hp) (hl : h.lim ≤ h.objs.length) : C0 n_internal_bytealg_IndexRabinKarp [.p (.str (mkS t)), .p (.str (mkS s))] h = some (eI (-1), h) := by
 refine call_loc noExt_mono (f := n_internal_bytealg_IndexRabinKarp) rfl rfl rfl fun h0 e0 el => ?_
 have hl : h0.lim ≤ h0.objs.length := by omega
 simp
 obtain ⟨_, ⟨a, b, rfl⟩, hh⟩ := hash_ok s (by omega) h0 hl
 refine PutA_eq hh ?_
 simp
 refine Run_loop (Rk1 t s h0) (n := s.length) ⟨0, a, b, 0, by omega, by omega, rfl, by simp, by simp, by simp, by simp, by simp, by simp, by simp⟩ ?_
 rintro z f1 h1 ⟨i, u, v, w, i1, i2, rfl, g0, g1, g5, g6, g7, g8, g9⟩
 by_cases hi : i < s.length
 · have hi2 : i < t.length := by omega
   have w5 : IntKind.i64.wrap ((i : Int) + 1) = ((i + 1 : Nat) : Int) := by rw [wrap64 (by omega) (by omega)]; simp
   simp [g0, g1, g5, g6, g7, g8, g9, hi, hi2, w5]
   exact ⟨s.length - (i + 1), by omega, i + 1, _, _, _, by omega, rfl, rfl, by simp [g0], by simp [g1], by simp [g5]; rfl, by simp [g6]; rfl, by simp [g7], by simp; rfl, by simp⟩
 · have n0 := no 0
   rw [List.drop_zero] at n0
   by_cases hw : w = u
   · subst hw
     simp [g0, g1, g5, g6, g7, g8, g9, hi, sls_hi t hst, str_eql, n0]
     refine Run_loop (Rk2 t s h1) (n := t.length - s.length) ⟨s.length, w, v, w, by omega, hst, rfl, rfl, by simp, by simp, by simp, by simp, by simp, by simp, by simp⟩ ?_
     rintro z f2 h2 ⟨i, u, v, w, i0, i1, i2, rfl, g0, g1, g5, g6, g7, g8, g10⟩
     by_cases hi : i < t.length
     · obtain ⟨j, hj⟩ : ∃ j, j = i + 1 := ⟨_, rfl⟩
       obtain ⟨k, hk⟩ : ∃ k, k = i - s.length := ⟨_, rfl⟩
       obtain ⟨k2, hk2⟩ : ∃ k, k = j - s.length := ⟨_, rfl⟩
       have w5 : IntKind.i64.wrap ((i : Int) + 1) = (j : Int) := by rw [wrap64 (by omega) (by omega)]; omega
       have w6 : IntKind.i64.wrap ((i : Int) - s.length) = (k : Int) := by rw [wrap64 (by omega) (by omega)]; omega
       have w7 : IntKind.i64.wrap ((j : Int) - s.length) = (k2 : Int) := by rw [wrap64 (by omega) (by omega)]; omega
       have hkt : k < t.length := by omega
       have nk : (t.drop k2).take (j - k2) ≠ s := by rw [show j - k2 = s.length by omega]; exact no k2
       have sl := sls_mid t (a := k2) (b := j) (by omega) (by omega)
       simp [g0, g1, g5, g6, g7, g8, g10, hi, w5, w6, hkt]
       generalize decide (_ = u) = d
       cases d with
       | true =>
        simp [g0, g1, g7, w7, sl, str_eql, nk]
        exact ⟨t.length - j, by omega, j, _, _, _, by omega, by omega, rfl, rfl, by simp [g0], by simp [g1], by simp [g5]; rfl, by simp [g6]; rfl, by simp [g7], by simp; rfl, by simp⟩
       | false =>
        simp
        exact ⟨t.length - j, by omega, j, _, _, _, by omega, by omega, rfl, rfl, by simp [g0], by simp [g1], by simp [g5]; rfl, by simp [g6]; rfl, by simp [g7], by simp; rfl, by simp⟩
     · simp [g0, g1, g10, hi, Ends]
   · simp [g0, g1, g5, g6, g7, g8, g9, hi, hw]
     refine Run_loop (Rk2 t s h1) (n := t.length - s.length) ⟨s.length, u, v, w, by omega, hst, rfl, rfl, by simp, by simp, by simp, by simp, by simp, by simp, by simp⟩ ?_
     rintro z f2 h2 ⟨i, u, v, w, i0, i1, i2, rfl, g0, g1, g5, g6, g7, g8, g10⟩
     by_cases hi : i < t.length
     · obtain ⟨j, hj⟩ : ∃ j, j = i + 1 := ⟨_, rfl⟩
       obtain ⟨k, hk⟩ : ∃ k, k = i - s.length := ⟨_, rfl⟩
       obtain ⟨k2, hk2⟩ : ∃ k, k = j - s.length := ⟨_, rfl⟩
       have w5 : IntKind.i64.wrap ((i : Int) + 1) = (j : Int) := by rw [wrap64 (by omega) (by omega)]; omega
       have w6 : IntKind.i64.wrap ((i : Int) - s.length) = (k : Int) := by rw [wrap64 (by omega) (by omega)]; omega
       have w7 : IntKind.i64.wrap ((j : Int) - s.length) = (k2 : Int) := by rw [wrap64 (by omega) (by omega)]; omega
       have hkt : k < t.length := by omega
       have nk : (t.drop k2).take (j - k2) ≠ s := by rw [show j - k2 = s.length by omega]; exact no k2
       have sl := sls_mid t (a := k2) (b := j) (by omega) (by omega)
       simp [g0, g1, g5, g6, g7, g8, g10, hi, w5, w6, hkt]
       generalize decide (_ = u) = d
       cases d with
       | true =>
        simp [g0, g1, g7, w7, sl, str_eql, nk]
        exact ⟨t.length - j, by omega, j, _, _, _, by omega, by omega, rfl, rfl, by simp [g0], by simp [g1], by simp [g5]; rfl, by simp [g6]; rfl, by simp [g7], by simp; rfl, by simp⟩
       | false =>
        simp
        exact ⟨t.length - j, by omega, j, _, _, _, by omega, by omega, rfl, rfl, by simp [g0], by simp [g1], by simp [g5]; rfl, by simp [g6]; rfl, by simp [g7], by simp; rfl, by simp⟩
     · simp [g0, g1, g10, hi, Ends]
end Dk.M
