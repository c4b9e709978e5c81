/- Names of one letter are no keywords. -/
import Derived.Test.YtfielioaflfekaaGreatDoorP
import Derived.Test.YtfielioaflfekaaGreatDoorNk7
set_option linter.unusedVariables false
set_option linter.unusedSimpArgs false
set_option linter.unusedSectionVars false
namespace Dk.K
open Go Dk
variable [Mx]

theorem Run_fnd (C : CallFn) (l : List Step) (k : List Ct) (fr : Fr) (h : Hp) (Q : Ex → Fr → Hp → Prop) (d : Option Nat) (m : Int) (x y : X) : Run C (.ops (⟨d, .fnd m x y, none, []⟩ :: l) :: k) .normal fr h Q = PutO C d (look (.fnd m x y) fr h) (.ops l :: k) fr h Q := Run_look _ _ _ _ _ _ _ _ rfl
theorem index_fits {s t : ByteArray} (h1 : s.size = 3) (h2 : t.size = 29) (he : (s.toList == t.toList) = false) (hi : idxL s.data.toList t.data.toList 0 = -1) (hm : (3 : Int) ≤ Mx.m) (h : Hp) : C0 n_internal_stringslite_Index [.p (.str t), .p (.str s)] h = some (eI (-1), h) := by
  refine call_loc noExt_mono (f := n_internal_stringslite_Index) rfl rfl rfl fun h0 e0 el => ?_
  have hne : ¬ s = ByteArray.empty := by rintro rfl; cases h1
  have hb : binOp .eql .none (.p (.str s)) (.p (.str t)) = some (eB false) := by simp [binOp, strBin, he]
  have hle : sizeLe 3 Mx.m = true := by
    cases hq : Mx.m with
    | ofNat k => rw [hq] at hm; simp only [sizeLe]; exact Nat.ble_eq_true_of_le (by have : (3 : Int) ≤ (k : Int) := hm; omega)
    | negSucc k => rw [hq] at hm; have : (3 : Int) ≤ Int.negSucc k := hm; omega
  simp [h1, h2, hne, hb, hm, Run_fnd]
  have hlk : ∀ fr : Fr, fr.get 45 = .p (.str t) → fr.get 46 = .p (.str s) → look (.fnd Mx.m (.t 45) (.t 46)) fr h0 = some (eI (-1)) := fun fr e1 e2 => by
    simp only [look, X.ev, e1, e2, h1, h2, hle, hi]
    rfl
  rw [hlk _ (by simp) (by simp)]
  simp [Ends]
omit [Mx] in
def noneK : HK := ⟨.nil, 0, 0⟩
omit [Mx] in
theorem noneK_rel : HRel noneK ⟨[], 0⟩ := ⟨⟨fun i => by simp [noneK, T.get], by simp⟩, rfl, rfl⟩
omit [Mx] in
theorem noneK_is {h : Hp} (R : HRel noneK h) : h = ⟨[], 0⟩ := by
  obtain ⟨os, lim⟩ := h
  have h1 := R.n
  have h2 := R.lim
  simp [noneK] at h1 h2
  subst h2
  cases os with
  | nil => rfl
  | cons => simp at h1
theorem small : smallNos progList = true := by kernel_rfl
theorem closed : progCl progList = true := by kernel_rfl
theorem noYield : progOf progList yieldNo = none := by kernel_rfl
omit [Mx] in
def kw : ByteArray := bs [32, 115, 101, 113, 32, 119, 104, 101, 114, 101, 32, 97, 110, 100, 32, 119, 105, 116, 104, 105, 110, 32, 98, 121, 32, 107, 101, 121, 32]
omit [Mx] in
noncomputable abbrev run [Mx] (f : Nat) (args : List EV) (H : HK) : R := runC (treeOf progList) 1000 60 f args H
omit [Mx] in
def kwRuns (I : Mx) : Prop := ∀ c, 97 ≤ c ∧ c ≤ 102 → run n_query_keyword [.p (.str (bs [c]))] noneK = some (eB false, noneK)
omit [Mx] in
theorem six {P : Nat → Prop} (h : P 97 ∧ P 98 ∧ P 99 ∧ P 100 ∧ P 101 ∧ P 102) : ∀ c, 97 ≤ c ∧ c ≤ 102 → P c := by
  intro c hc
  have hc' : c = 97 ∨ c = 98 ∨ c = 99 ∨ c = 100 ∨ c = 101 ∨ c = 102 := by omega
  obtain ⟨h1, h2, h3, h4, h5, h6⟩ := h
  rcases hc' with rfl | rfl | rfl | rfl | rfl | rfl <;> assumption
omit [Mx] in
theorem run_neg (k : Nat) : kwRuns ⟨.negSucc k⟩ := six ⟨by kernel_rfl, by kernel_rfl, by kernel_rfl, by kernel_rfl, by kernel_rfl, by kernel_rfl⟩
omit [Mx] in
theorem run_0 : kwRuns ⟨.ofNat 0⟩ := six ⟨by kernel_rfl, by kernel_rfl, by kernel_rfl, by kernel_rfl, by kernel_rfl, by kernel_rfl⟩
omit [Mx] in
theorem run_1 : kwRuns ⟨.ofNat 1⟩ := six ⟨by kernel_rfl, by kernel_rfl, by kernel_rfl, by kernel_rfl, by kernel_rfl, by kernel_rfl⟩
omit [Mx] in
theorem run_2 : kwRuns ⟨.ofNat 2⟩ := six ⟨by kernel_rfl, by kernel_rfl, by kernel_rfl, by kernel_rfl, by kernel_rfl, by kernel_rfl⟩
omit [Mx] in
theorem bin_sadd (ek : EK) {a b : ByteArray} (h : a.size + b.size < 4294967296) : binOp .add ek (.p (.str a)) (.p (.str b)) = some (.p (.str (a ++ b))) := by
  simp [binOp, strBin, h]
theorem kw_fits (hm : (3 : Int) ≤ Mx.m) : ∀ c, 97 ≤ c ∧ c ≤ 102 → ∀ h, C0 n_query_keyword [.p (.str (bs [c]))] h = some (eB false, h) := by
  have key : ∀ c, (bs [c]).size = 1 → (((bs [32] ++ bs [c]) ++ bs [32]).toList == kw.toList) = false → idxL ((bs [32] ++ bs [c]) ++ bs [32]).data.toList kw.data.toList 0 = -1 → ∀ h, C0 n_query_keyword [.p (.str (bs [c]))] h = some (eB false, h) := by
    intro c hs he hi h
    refine call_loc noExt_mono (f := n_query_keyword) rfl rfl rfl fun h0 e0 el => ?_
    have b1 : (bs [32]).size + (bs [c]).size < 4294967296 := by rw [hs]; decide
    have hsz : (bs [32] ++ bs [c]).size = 2 := by rw [ByteArray.size_append, hs]; rfl
    have b2 : (bs [32] ++ bs [c]).size + (bs [32]).size < 4294967296 := by rw [hsz]; decide
    have hs3 : ((bs [32] ++ bs [c]) ++ bs [32]).size = 3 := by rw [ByteArray.size_append, hsz]; rfl
    have hx := index_fits hs3 (t := kw) rfl he hi hm
    have h1 : ∀ h, C0 n_strings_Index [.p (.str kw), .p (.str ((bs [32] ++ bs [c]) ++ bs [32]))] h = some (eI (-1), h) := fun h => by
      refine call_loc noExt_mono (f := n_strings_Index) rfl rfl rfl fun h0 e0 el => ?_
      simp
      refine PutA_eq (hx h0) ?_
      simp [Ends]
    have h2 : ∀ h, C0 n_strings_Contains [.p (.str kw), .p (.str ((bs [32] ++ bs [c]) ++ bs [32]))] h = some (eB false, h) := fun h => by
      refine call_loc noExt_mono (f := n_strings_Contains) rfl rfl rfl fun h0 e0 el => ?_
      simp
      refine PutA_eq (h1 h0) ?_
      simp [Ends]
    simp [bin_sadd _ b1, bin_sadd _ b2]
    refine PutA_eq (h2 h0) ?_
    simp [Ends]
  intro c hc
  have hc' : c = 97 ∨ c = 98 ∨ c = 99 ∨ c = 100 ∨ c = 101 ∨ c = 102 := by omega
  rcases hc' with rfl | rfl | rfl | rfl | rfl | rfl <;> exact key _ rfl (by kernel_rfl) (by kernel_rfl)
end Dk.K
