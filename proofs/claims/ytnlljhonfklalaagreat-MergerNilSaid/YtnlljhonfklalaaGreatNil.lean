/- Of no merger nothing comes; without a log there is none; one that has nothing to do does nothing. -/
import Derived.Test.YtnlljhonfklalaaGreatP
import Derived.Test.YtnlljhonfklalaaGreatFk5
import Derived.Test.YtnlljhonfklalaaGreatFk6
set_option linter.unusedVariables false
set_option linter.unusedSimpArgs false
set_option linter.unusedSectionVars false
namespace Dk.M
open Go Dk

def noneK : HK := ⟨.nil, 0, 0⟩
theorem noneK_rel : HRel noneK ⟨[], 0⟩ := ⟨⟨fun i => by simp [noneK, T.get], by simp⟩, rfl, rfl⟩
theorem noneK_is {h : Hp} (R : HRel noneK h) : h = ⟨[], 0⟩ := by
  obtain ⟨os, lim⟩ := h
  have h1 := R.n
  have h2 := R.lim
  simp [noneK] at h1 h2
  subst h2
  cases os with
  | nil => rfl
  | cons => simp at h1
theorem small : smallNos progList = true := by kernel_rfl
theorem closed : progCl progList = true := by kernel_rfl
theorem noYield : progOf progList yieldNo = none := by kernel_rfl
noncomputable abbrev run (f : Nat) (args : List EV) (H : HK) : R := runC (treeOf progList) 1000 60 f args H
theorem piece {f : Nat} {args : List EV} {H : HK} {h : Hp} (e : (run f args H).isSome = true) (R : HRel H h) : ∃ h', C0 f args h = some (resV (run f args H), h') ∧ HRel (resH (run f args H)) h' := run_piece (ext := noExt) small noYield noExt_mono e R

theorem awake_run : run n_sibyllaw22_awake [] noneK = some (eB true, noneK) := by kernel_rfl
theorem awake_ok {h : Hp} (hh : h.lim ≤ h.objs.length) : C0 n_sibyllaw22_awake [] h = some (eB true, h) := by
  obtain ⟨h', e, R⟩ := runC_ok (ext := noExt) small noYield noExt_mono awake_run noneK_rel
  rw [noneK_is R] at e
  exact call_any closed (f := n_sibyllaw22_awake) (d := d_sibyllaw22_awake) (by kernel_rfl) rfl rfl rfl rfl e hh

theorem rest_ok (x n : Int) (hx : -9223372036854775808 ≤ x ∧ x < 9223372036854775808) (hn : 0 < n) (hb : n < 1000000) : ∃ r : Int, 0 ≤ r ∧ r < n ∧ ∀ h, C0 n_sibyllaw22_rest [eI x, eI n] h = some (eI r, h) := by
  have h1 : -n < x.tmod n := Int.lt_tmod_of_pos x hn
  have h2 : x.tmod n < n := Int.tmod_lt_of_pos x hn
  refine ⟨(x.tmod n + n).tmod n, Int.tmod_nonneg _ (by omega), Int.tmod_lt_of_pos _ hn, fun h => ?_⟩
  refine call_loc noExt_mono (f := n_sibyllaw22_rest) rfl rfl rfl fun h0 e0 el => ?_
  have hne : ¬ n = 0 := by omega
  have w1 : IntKind.i64.wrap (x.tmod n + n) = x.tmod n + n := wrap64 (by omega) (by omega)
  simp [Ends, hne, w1]

/-! The merger that the law makes, and how it stands behind so many rounds. -/
noncomputable def r1 : R := run n_sibyllaw22_Spec_config [.agg [.full [], eI 0, eI 0, eI 0, .full [], .full []]] noneK
noncomputable def r2 : R := run n_log_New [resV r1] (resH r1)
noncomputable def r3 : R := run n_merger_New [resV r2] (resH r2)
noncomputable def xp : EV := resV r3
noncomputable def half (H : HK) : HK := resH (run n_merger_Merger_Step [xp] H)
noncomputable def next (H : HK) : HK := resH (run n_merger_Merger_Step [.nilp] (half H))
noncomputable def HT : Nat → HK
  | 0 => resH r3
  | i + 1 => next (HT i)
def isF (r : R) : Bool := match r with
  | some (.p (.bool b), _) => !b
  | _ => false
theorem isF_res {r : R} (h : isF r = true) : r.isSome = true ∧ resV r = eB false := by
  unfold isF at h
  split at h
  · rename_i b _
    cases b <;> simp_all [resV]
  · cases h
theorem made : r1.isSome = true ∧ r2.isSome = true ∧ r3.isSome = true := ⟨by kernel_rfl, by kernel_rfl, by kernel_rfl⟩
theorem steps : ((List.range 10).all fun i => isF (run n_merger_Merger_Step [xp] (HT i)) && isF (run n_merger_Merger_Step [.nilp] (half (HT i)))) = true := by kernel_rfl
theorem lims : ((List.range 10).all fun i => Nat.beq (HT i).lim 0) = true := by kernel_rfl
theorem step_x {i : Nat} (hi : i < 10) {h : Hp} (R : HRel (HT i) h) : ∃ h', C0 n_merger_Merger_Step [xp] h = some (eB false, h') ∧ HRel (half (HT i)) h' := by
  have := List.all_eq_true.1 steps i (by simpa using hi)
  simp only [Bool.and_eq_true] at this
  obtain ⟨q1, q2⟩ := isF_res this.1
  have := piece q1 R
  rw [q2] at this
  exact this
theorem step_z {i : Nat} (hi : i < 10) {h : Hp} (R : HRel (half (HT i)) h) : ∃ h', C0 n_merger_Merger_Step [.nilp] h = some (eB false, h') ∧ HRel (HT (i + 1)) h' := by
  have := List.all_eq_true.1 steps i (by simpa using hi)
  simp only [Bool.and_eq_true] at this
  obtain ⟨q1, q2⟩ := isF_res this.2
  have := piece q1 R
  rw [q2] at this
  exact this

theorem mergerNil_ok (n : Int) (hn : -9223372036854775808 ≤ n ∧ n < 9223372036854775808) : C0 n_sibyllaw22_MergerNil [eI n] ⟨[], 0⟩ = some (eB true, ⟨[], 0⟩) := by
  refine call_loc noExt_mono (f := n_sibyllaw22_MergerNil) rfl rfl rfl fun h0 e0 el => ?_
  obtain ⟨os, lim⟩ := h0
  simp at e0 el
  subst e0 el
  obtain ⟨r, q1, q2, hr⟩ : ∃ r : Int, 0 ≤ r ∧ r < 10 ∧ ∀ h, C0 n_sibyllaw22_rest [eI n, eI 10] h = some (eI r, h) := rest_ok n 10 hn (by omega) (by omega)
  obtain ⟨h1, e1, R1⟩ := piece made.1 noneK_rel
  obtain ⟨h2, e2, R2⟩ := piece made.2.1 R1
  obtain ⟨h3, e3, R3⟩ := piece made.2.2 R2
  simp
  refine PutA_eq e1 ?_
  simp
  refine PutA_eq e2 ?_
  simp
  refine PutA_eq e3 ?_
  simp
  refine Run_loop (fun q f h => ∃ i : Nat, (i : Int) ≤ r ∧ q = r.toNat - i ∧ f.get 0 = eI n ∧ f.get 3 = .nilp ∧ f.get 4 = xp ∧ f.get 5 = eI i ∧ HRel (HT i) h) (n := r.toNat) ?_ ?_
  · exact ⟨0, (by simpa using q1), rfl, (by simp), (by simp), rfl, (by simp), R3⟩
  rintro q f h ⟨i, hi, rfl, g0, g3, g4, g5, R⟩
  simp [g0, g3, g4, g5]
  refine PutA_eq (hr _) ?_
  by_cases hlt : (i : Int) < r
  · simp [hlt, g0, g3, g4, g5]
    obtain ⟨h4, e4, R4⟩ := step_x (by omega) R
    refine PutA_eq e4 ?_
    simp [g0, g3, g4, g5]
    obtain ⟨h5, e5, R5⟩ := step_z (by omega) R4
    refine PutA_eq e5 ?_
    have w1 : IntKind.i64.wrap ((i : Int) + 1) = (i : Int) + 1 := wrap64 (by omega) (by omega)
    simp [g0, g3, g4, g5, w1]
    exact ⟨r.toNat - (i + 1), by omega, i + 1, by omega, rfl, by simp, R5⟩
  · have hir : (i : Int) = r := by omega
    have hl : h.lim ≤ h.objs.length := by
      have := List.all_eq_true.1 lims i (by simp; omega)
      have h0 := Nat.eq_of_beq_eq_true this
      rw [← R.lim, h0]
      exact Nat.zero_le _
    simp [hlt, g0, g3, g4, g5]
    refine PutA_eq (awake_ok hl) ?_
    unfold PutV
    have hc : i = 0 ∨ i = 1 ∨ i = 2 ∨ i = 3 ∨ i = 4 ∨ i = 5 ∨ i = 6 ∨ i = 7 ∨ i = 8 ∨ i = 9 := by omega
    clear hi q1 q2 hlt hl
    rcases hc with rfl | rfl | rfl | rfl | rfl | rfl | rfl | rfl | rfl | rfl
    all_goals exact Run_true (k := 1000) (n := 60) small noYield noExt_mono R (by kernel_rfl)
theorem mergerNil_D : ∀ xss, Typed [([.int .i64], false)] xss → C0 n_sibyllaw22_MergerNil (argsEV [([.int .i64], false)] xss) ⟨[], 0⟩ = some (eB true, ⟨[], 0⟩) := by
  intro xss h
  simp only [Typed, PTs, PT] at h
  obtain ⟨_, _, rfl, ⟨_, _, rfl, ⟨a, rfl, ha⟩, rfl⟩, rfl⟩ := h
  have e1 : IntKind.i64.min = -9223372036854775808 := by decide
  have e2 : IntKind.i64.max = 9223372036854775807 := by decide
  rw [e1, e2] at ha
  exact mergerNil_ok a ⟨ha.1, by omega⟩
end Dk.M
