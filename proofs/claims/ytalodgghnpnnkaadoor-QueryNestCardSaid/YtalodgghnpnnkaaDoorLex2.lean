/- The token that a text begins with, at D. -/
import Derived.Test.YtalodgghnpnnkaaDoorLex1
set_option linter.unusedVariables false
set_option linter.unusedSimpArgs false
set_option linter.unusedSectionVars false
namespace Dk.M
open Go Dk
variable [Mx]
theorem next_ok (c : UInt8) (r : List UInt8) (h : Hp) (hl : h.lim ≤ h.objs.length) (hs : (c :: r).length < 2 ^ 62) : C0 n_lex_next [.p (.str (mkS (c :: r)))] h = some (tokE (c :: r) (tokL (c :: r)), h) := by
 refine call_loc noExt_mono (f := n_lex_next) rfl rfl (by cases tokL (c :: r) <;> simp [tokE]) fun h0 e0 el => ?_
 have l0 : ((0 : Int) < (r.length : Int) + 1) = True := eq_true (by omega)
 have hl : h0.lim ≤ h0.objs.length := by omega
 have s1 : sliceStr (.p (.str (mkS (c :: r)))) (some (eI 1)) none = some (.p (.str (mkS r))) := by
  have := sls_lo (c :: r) (a := 1) (by simp)
  simpa using this
 have s2 : sliceStr (.p (.str (mkS (c :: r)))) none (some (eI 1)) = some (.p (.str (mkS [c]))) := by
  have := sls_hi (c :: r) (b := 1) (by simp)
  simpa using this
 obtain ⟨Y, eY⟩ : ∃ Y, Y = h0.new (.cells ⟨0, 4, true, 0, [[eI 0, eI 0, .p (.str (bs [])), eI 0]]⟩) := ⟨_, rfl⟩
 have y0 : Y.arr h0.objs.length 0 = some ⟨0, 4, true, 0, [[eI 0, eI 0, .p (.str (bs [])), eI 0]]⟩ := by rw [eY]; simp
 have nY : Y.objs.length = h0.objs.length + 1 := by rw [eY]; simp
 have lY : Y.lim ≤ Y.objs.length := by rw [eY]; simp; omega
 have lY2 : Y.lim ≤ h0.objs.length := by rw [eY]; simp; omega
 simp [idx, l0]
 rw [← eY]
 refine PutA_eq (small_ok c Y lY) ?_
 simp only [PutV_some]
 cases hs1 : smallB c with
 | true =>
  simp
  refine PutA_eq (run_ok word_ok (c :: r) Y lY hs) ?_
  simp [sls_hi (c :: r) (runN_le wordB (c :: r)), y0, nl (arr_lt y0), lY2, Ends]
  simp [tokE, tokL, hs1]
 | false =>
  simp
  refine PutA_eq (digit_ok c Y lY) ?_
  simp only [PutV_some]
  cases hs2 : digitB c with
  | true =>
   simp
   refine PutA_eq (run_ok digit_ok (c :: r) Y lY hs) ?_
   simp [sls_hi (c :: r) (runN_le digitB (c :: r))]
   refine PutA_eq (number_ok ((c :: r).take (runN digitB (c :: r))) (digits_run _) Y lY (by simp at hs ⊢; omega)) ?_
   cases hn : numL 0 ((c :: r).take (runN digitB (c :: r))) with
   | none =>
    simp [numR, y0, nl (arr_lt y0), lY2, Ends]
    simp [tokE, tokL, hs1, hs2, hn]
    rfl
   | some n =>
    simp [numR, sls_lo (c :: r) (runN_le digitB (c :: r))]
    refine PutA_eq (ends_ok letter_ok _ Y lY) ?_
    cases he : endsB letterB ((c :: r).drop (runN digitB (c :: r))) with
    | true =>
     simp [sls_hi (c :: r) (runN_le digitB (c :: r)), y0, nl (arr_lt y0), lY2, Ends]
     simp [tokE, tokL, hs1, hs2, hn, he]
    | false =>
     simp [y0, nl (arr_lt y0), lY2, Ends]
     simp [tokE, tokL, hs1, hs2, hn, he]
     rfl
  | false =>
   by_cases h1 : (65 : Int) ≤ (c.toNat : Int)
   · by_cases h2 : (c.toNat : Int) ≤ 72
     · have h12 : (65 ≤ c.toNat ∧ c.toNat ≤ 72) = True := eq_true ⟨by omega, by omega⟩
       simp [h1, h2, s1]
       refine PutA_eq (ends_ok letter_ok _ Y lY) ?_
       cases he : endsB letterB r with
       | false =>
        simp [y0, nl (arr_lt y0), lY2, Ends]
        simp [tokE, tokL, hs1, hs2, h12, he]
        rfl
       | true =>
        simp [s1]
        refine PutA_eq (ends_ok digit_ok _ Y lY) ?_
        cases he2 : endsB digitB r with
        | false =>
         simp [y0, nl (arr_lt y0), lY2, Ends]
         simp [tokE, tokL, hs1, hs2, h12, he, he2]
         rfl
        | true =>
         have w1 : IntKind.u8.wrap ((c.toNat : Int) - 65) = (c.toNat : Int) - 65 := by simp [IntKind.wrap, IntKind.signed, IntKind.bits]; omega
         have w2 : IntKind.i64.wrap ((c.toNat : Int) - 65) = (c.toNat : Int) - 65 := wrap64 (by omega) (by omega)
         simp [s2, w1, w2, y0, nl (arr_lt y0), lY2, Ends]
         simp [tokE, tokL, hs1, hs2, h12, he, he2]
     · have h12 : (65 ≤ c.toNat ∧ c.toNat ≤ 72) = False := eq_false (by omega)
       simp [h1, h2]
       refine PutA_eq (sign_ok c r Y lY) ?_
       simp only [PutV_some]
       have hm : ∀ n, (c :: r).take n = [] ↔ n = 0 := fun n => by cases n <;> simp
       by_cases hz : signN (c :: r) = 0
       · simp [show bs [] = mkS [] from rfl, str_neq, hz, y0, nl (arr_lt y0), lY2, Ends]
         simp [tokE, tokL, hs1, hs2, h12, hz]
       · have hz' : decide ((c :: r).take (signN (c :: r)) = []) = false := decide_eq_false fun q => hz ((hm _).1 q)
         simp [show bs [] = mkS [] from rfl, str_neq, hz, y0, nl (arr_lt y0), lY2, Ends]
         simp [tokE, tokL, hs1, hs2, h12, hz]
   · have h12 : (65 ≤ c.toNat ∧ c.toNat ≤ 72) = False := eq_false (by omega)
     simp [h1]
     refine PutA_eq (sign_ok c r Y lY) ?_
     simp only [PutV_some]
     have hm : ∀ n, (c :: r).take n = [] ↔ n = 0 := fun n => by cases n <;> simp
     by_cases hz : signN (c :: r) = 0
     · simp [show bs [] = mkS [] from rfl, str_neq, hz, y0, nl (arr_lt y0), lY2, Ends]
       simp [tokE, tokL, hs1, hs2, h12, hz]
     · have hz' : decide ((c :: r).take (signN (c :: r)) = []) = false := decide_eq_false fun q => hz ((hm _).1 q)
       simp [show bs [] = mkS [] from rfl, str_neq, hz, y0, nl (arr_lt y0), lY2, Ends]
       simp [tokE, tokL, hs1, hs2, h12, hz]
end Dk.M
