/- A worker leaves behind a close: all sixty cases run by the kernel. -/
import Derived.Test.YtnlljhonfklalaaGreatNil
import Derived.Test.YtnlljhonfklalaaGreatEk5
set_option linter.unusedVariables false
set_option linter.unusedSimpArgs false
set_option linter.unusedSectionVars false
namespace Dk.W
open Go Dk

/-- The law's body, with both rests put in. -/
def mb (n m : Int) : DC := match d_sibyllaw21_WorkerLeaves.body with
  | .seq p1 (.seq _ (.seq p3 (.seq p4 (.seq _ (.seq _ q))))) => .seq p1 (.seq (.ops [S 5 (.mv (xB true))]) (.seq p3 (.seq p4 (.seq (.ops [S 8 (.mv (xI n)), S 9 (.mv (xI m))]) q))))
  | _ => .skip
def md (n m : Int) : DFn := ⟨0, mb n m, [.tmp 4], false, true, false⟩
noncomputable def leave (n m : Int) : R := body0C 1000 (callC (treeOf progList) 1000 60) (md n m) [] noneK fun v h => some (v, h)

theorem awake_run : runC (treeOf progList) 1000 60 n_sibyllaw21_awake [] noneK = some (eB true, noneK) := by kernel_rfl
theorem awake_ok : C0 n_sibyllaw21_awake [] ⟨[], 0⟩ = some (eB true, ⟨[], 0⟩) := of_run awake_run
theorem rest_ok (x n : Int) (hx : -9223372036854775808 ≤ x ∧ x < 9223372036854775808) (hn : 0 < n) (hb : n < 1000000) : ∃ r : Int, 0 ≤ r ∧ r < n ∧ ∀ h, C0 n_sibyllaw21_rest [eI x, eI n] h = some (eI r, h) := by
  have h1 : -n < x.tmod n := Int.lt_tmod_of_pos x hn
  have h2 : x.tmod n < n := Int.tmod_lt_of_pos x hn
  refine ⟨(x.tmod n + n).tmod n, Int.tmod_nonneg _ (by omega), Int.tmod_lt_of_pos _ hn, fun h => ?_⟩
  refine call_loc noExt_mono (f := n_sibyllaw21_rest) rfl rfl rfl fun h0 e0 el => ?_
  have hne : ¬ n = 0 := by omega
  have w1 : IntKind.i64.wrap (x.tmod n + n) = x.tmod n + n := wrap64 (by omega) (by omega)
  simp [Ends, hne, w1]
theorem leaves_ok (a b : Int) (ha : -9223372036854775808 ≤ a ∧ a < 9223372036854775808) (hb : -9223372036854775808 ≤ b ∧ b < 9223372036854775808)
    (hk : ∀ n m : Int, 0 ≤ n → n < 10 → 0 ≤ m → m < 6 → leave n m = some (eB true, noneK)) : C0 n_sibyllaw21_WorkerLeaves [eI a, eI b] ⟨[], 0⟩ = some (eB true, ⟨[], 0⟩) := by
  refine call_loc noExt_mono (f := n_sibyllaw21_WorkerLeaves) rfl rfl rfl fun h0 e0 el => ?_
  obtain ⟨os, lim⟩ := h0
  simp at e0 el
  subst e0 el
  obtain ⟨n, n1, n2, hn⟩ : ∃ r : Int, 0 ≤ r ∧ r < 10 ∧ ∀ h, C0 n_sibyllaw21_rest [eI a, eI 10] h = some (eI r, h) := rest_ok a 10 ha (by omega) (by omega)
  obtain ⟨m, m1, m2, hm⟩ : ∃ r : Int, 0 ≤ r ∧ r < 6 ∧ ∀ h, C0 n_sibyllaw21_rest [eI b, eI 6] h = some (eI r, h) := rest_ok b 6 hb (by omega) (by omega)
  have H := run_of (ext := noExt) small noYield noExt_mono (d := md n m) rfl (hk n m n1 n2 m1 m2) noneK_rel
  simp [md, mb, d_sibyllaw21_WorkerLeaves] at H
  simp
  refine PutA_eq awake_ok ?_
  simp at H ⊢
  obtain ⟨v2, h2, e2, H⟩ := H
  refine PutA_eq e2 ?_
  simp at H ⊢
  obtain ⟨v3, h3, e3, H⟩ := H
  refine PutA_eq e3 ?_
  simp at H ⊢
  obtain ⟨v4, h4, e4, H⟩ := H
  refine PutA_eq e4 ?_
  simp at H ⊢
  refine PutA_eq (hn _) ?_
  simp
  refine PutA_eq (hm _) ?_
  simp
  exact Run_mask (by simp [mask]) H
end Dk.W
