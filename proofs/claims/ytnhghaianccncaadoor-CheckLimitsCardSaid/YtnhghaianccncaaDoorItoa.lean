/- Itoa of what has two digits at most, at D. -/
import Derived.Test.YtnhghaianccncaaDoorRk
import Derived.Test.YtnhghaianccncaaDoorPnt
set_option linter.unusedVariables false
set_option linter.unusedSimpArgs false
set_option linter.unusedSectionVars false
namespace Dk.L
open Go Dk
variable [Mx]
def dig1 : List UInt8 := [48, 49, 50, 51, 52, 53, 54, 55, 56, 57, 97, 98, 99, 100, 101, 102, 103, 104, 105, 106, 107, 108, 109, 110, 111, 112, 113, 114, 115, 116, 117, 118, 119, 120, 121, 122]
def dig2 : List UInt8 := [48, 48, 48, 49, 48, 50, 48, 51, 48, 52, 48, 53, 48, 54, 48, 55, 48, 56, 48, 57, 49, 48, 49, 49, 49, 50, 49, 51, 49, 52, 49, 53, 49, 54, 49, 55, 49, 56, 49, 57, 50, 48, 50, 49, 50, 50, 50, 51, 50, 52, 50, 53, 50, 54, 50, 55, 50, 56, 50, 57, 51, 48, 51, 49, 51, 50, 51, 51, 51, 52, 51, 53, 51, 54, 51, 55, 51, 56, 51, 57, 52, 48, 52, 49, 52, 50, 52, 51, 52, 52, 52, 53, 52, 54, 52, 55, 52, 56, 52, 57, 53, 48, 53, 49, 53, 50, 53, 51, 53, 52, 53, 53, 53, 54, 53, 55, 53, 56, 53, 57, 54, 48, 54, 49, 54, 50, 54, 51, 54, 52, 54, 53, 54, 54, 54, 55, 54, 56, 54, 57, 55, 48, 55, 49, 55, 50, 55, 51, 55, 52, 55, 53, 55, 54, 55, 55, 55, 56, 55, 57, 56, 48, 56, 49, 56, 50, 56, 51, 56, 52, 56, 53, 56, 54, 56, 55, 56, 56, 56, 57, 57, 48, 57, 49, 57, 50, 57, 51, 57, 52, 57, 53, 57, 54, 57, 55, 57, 56, 57, 57]
def itoa2 (w : Nat) : List UInt8 := if w < 10 then (dig1.drop w).take 1 else (dig2.drop (w * 2)).take 2
theorem small_itoa (w : Nat) (hw : w < 100) (h : Hp) : C0 n_internal_strconv_small [eI w] h = some (.p (.str (mkS (itoa2 w))), h) := by
 have key : WA (C0 n_internal_strconv_small [eI w] h) fun v h' => v = .p (.str (mkS (itoa2 w))) ∧ h' = h := by
  refine call_W noExt_mono (f := n_internal_strconv_small) rfl rfl ?_
  by_cases h1 : w < 10
  · have h1' : ((w : Int) < 10) = True := eq_true (by omega)
    obtain ⟨a, ha⟩ : ∃ a, a = w + 1 := ⟨_, rfl⟩
    have w1 : IntKind.i64.wrap ((w : Int) + 1) = (a : Int) := by rw [wrap64 (by omega) (by omega)]; omega
    have sl := sls_mid dig1 (a := w) (b := a) (by omega) (by simp [dig1]; omega)
    simp only [show a - w = 1 by omega] at sl
    simp [h1', w1, show bs [48, 49, 50, 51, 52, 53, 54, 55, 56, 57, 97, 98, 99, 100, 101, 102, 103, 104, 105, 106, 107, 108, 109, 110, 111, 112, 113, 114, 115, 116, 117, 118, 119, 120, 121, 122] = mkS dig1 from rfl, sl, Ends, itoa2, h1]
  · have h1' : ((w : Int) < 10) = False := eq_false (by omega)
    obtain ⟨a, ha⟩ : ∃ a, a = w * 2 := ⟨_, rfl⟩
    obtain ⟨b, hb⟩ : ∃ b, b = w * 2 + 2 := ⟨_, rfl⟩
    have w1 : IntKind.i64.wrap ((w : Int) * 2) = (a : Int) := by rw [wrap64 (by omega) (by omega)]; omega
    have w2 : IntKind.i64.wrap ((a : Int) + 2) = (b : Int) := by rw [wrap64 (by omega) (by omega)]; omega
    have sl := sls_mid dig2 (a := a) (b := b) (by omega) (by rw [show dig2.length = 200 from by kernel_rfl]; omega)
    simp only [show b - a = 2 by omega] at sl
    have ei : itoa2 w = (dig2.drop a).take 2 := by rw [itoa2, if_neg h1, ha]
    simp [h1', w1, w2]
    rw [show bs [48, 48, 48, 49, 48, 50, 48, 51, 48, 52, 48, 53, 48, 54, 48, 55, 48, 56, 48, 57, 49, 48, 49, 49, 49, 50, 49, 51, 49, 52, 49, 53, 49, 54, 49, 55, 49, 56, 49, 57, 50, 48, 50, 49, 50, 50, 50, 51, 50, 52, 50, 53, 50, 54, 50, 55, 50, 56, 50, 57, 51, 48, 51, 49, 51, 50, 51, 51, 51, 52, 51, 53, 51, 54, 51, 55, 51, 56, 51, 57, 52, 48, 52, 49, 52, 50, 52, 51, 52, 52, 52, 53, 52, 54, 52, 55, 52, 56, 52, 57, 53, 48, 53, 49, 53, 50, 53, 51, 53, 52, 53, 53, 53, 54, 53, 55, 53, 56, 53, 57, 54, 48, 54, 49, 54, 50, 54, 51, 54, 52, 54, 53, 54, 54, 54, 55, 54, 56, 54, 57, 55, 48, 55, 49, 55, 50, 55, 51, 55, 52, 55, 53, 55, 54, 55, 55, 55, 56, 55, 57, 56, 48, 56, 49, 56, 50, 56, 51, 56, 52, 56, 53, 56, 54, 56, 55, 56, 56, 56, 57, 57, 48, 57, 49, 57, 50, 57, 51, 57, 52, 57, 53, 57, 54, 57, 55, 57, 56, 57, 57] = mkS dig2 from rfl, sl]
    simp [Ends, ei]
 obtain ⟨v, h', e, rfl, rfl⟩ := key
 exact e
theorem itoa_ok (w : Nat) (hw : w < 100) : ItoaIs w (mkS (itoa2 w)) := by
 intro h
 refine call_loc noExt_mono (f := n_strconv_Itoa) rfl rfl rfl fun h0 e0 el => ?_
 simp
 refine PutA_eq (v := .p (.str (mkS (itoa2 w)))) (h := h0) ?_ ?_
 · have key : WA (C0 n_internal_strconv_Itoa [eI w] h0) fun v h' => v = .p (.str (mkS (itoa2 w))) ∧ h' = h0 := by
    refine call_W noExt_mono (f := n_internal_strconv_Itoa) rfl rfl ?_
    simp
    refine PutA_of (K := fun v h' => v = .p (.str (mkS (itoa2 w))) ∧ h' = h0) ?_ ?_
    · refine call_W noExt_mono (f := n_internal_strconv_FormatInt) rfl rfl ?_
      have h1 : ((0 : Int) ≤ w) = True := eq_true (by omega)
      have h2 : ((w : Int) < 100) = True := eq_true (by omega)
      simp [h1, h2]
      refine PutA_eq (small_itoa w hw h0) ?_
      simp [Ends]
    · rintro _ _ ⟨rfl, rfl⟩
      simp [Ends]
   obtain ⟨v, h', e, rfl, rfl⟩ := key
   exact e
 · simp [Ends]
end Dk.L
