/- The document's lexer: the next token, at D. -/
import Derived.Test.YtalodgghnpnnkaaDoorRef2
set_option linter.unusedVariables false
set_option linter.unusedSimpArgs false
set_option linter.unusedSectionVars false
namespace Dk.M
open Go Dk
variable [Mx]
def tokA (l : List UInt8) (a : Nat) : Option (Int × Nat × Int) → EV
 | none => .agg [eI 0, eI 0, .p (.str (mkS [])), eI 0]
 | some (k, m, x) => .agg [eI k, eI a, .p (.str (mkS ((l.drop a).take m))), eI x]
theorem rnext_ok (l : List UInt8) (a : Nat) (ha : a < l.length) (h : Hp) (hl : h.lim ≤ h.objs.length) (hs : l.length < 2 ^ 62) : C0 n_sibylref02_Next [.p (.str (mkS l)), eI a] h = some (tokA l a (tokL (l.drop a)), h) := by
 refine call_loc noExt_mono (f := n_sibylref02_Next) rfl rfl (by cases tokL (l.drop a) <;> simp [tokA]) fun h0 e0 el => ?_
 have hl : h0.lim ≤ h0.objs.length := by omega
 obtain ⟨b, hb⟩ : ∃ b, b = a + 1 := ⟨_, rfl⟩
 have wb : IntKind.i64.wrap ((a : Int) + 1) = (b : Int) := by rw [wrap64 (by omega) (by omega)]; omega
 obtain ⟨c, hc⟩ : ∃ c, l[a] = c := ⟨_, rfl⟩
 have hd : l.drop a = c :: l.drop b := by rw [List.drop_eq_getElem_cons ha, hc, hb]
 have hld : (l.drop a).length = l.length - a := by simp
 obtain ⟨Y, eY⟩ : ∃ Y, Y = h0.new (.cells ⟨0, 4, true, 0, [[eI 0, eI 0, .p (.str (bs [])), eI 0]]⟩) := ⟨_, rfl⟩
 have y0 : Y.arr h0.objs.length 0 = some ⟨0, 4, true, 0, [[eI 0, eI 0, .p (.str (bs [])), eI 0]]⟩ := by rw [eY]; simp
 have nY : Y.objs.length = h0.objs.length + 1 := by rw [eY]; simp
 have lY : Y.lim ≤ Y.objs.length := by rw [eY]; simp; omega
 have lY2 : Y.lim ≤ h0.objs.length := by rw [eY]; simp; omega
 have lt := arr_lt y0
 simp [ha, hc]
 rw [← eY]
 clear eY
 refine PutA_eq (rsmall_ok c Y lY) ?_
 simp only [PutV_some]
 cases hs1 : smallB c with
 | true =>
  simp
  have hg := goes_ok l a true (by omega) Y lY hs
  refine PutA_eq hg ?_
  obtain ⟨m, hm⟩ : ∃ m, runN (pk true) (l.drop a) = m := ⟨_, rfl⟩
  have hml := runN_le (pk true) (l.drop a)
  rw [hm] at hml ⊢
  obtain ⟨e, he⟩ : ∃ e, e = a + m := ⟨_, rfl⟩
  have we : IntKind.i64.wrap ((a : Int) + m) = (e : Int) := by rw [wrap64 (by omega) (by omega)]; omega
  have sl := sls_mid l (a := a) (b := e) (by omega) (by omega)
  rw [show e - a = m by omega] at sl
  have ht : tokL (l.drop a) = some (1, m, 0) := by
   rw [← hm, hd]
   simp [tokL, hs1, pk]
  simp [we, sl, y0, lt, lY2, Ends]
  simp [ht, tokA]
 | false =>
  simp
  refine PutA_eq (rdigit_ok c Y lY) ?_
  simp only [PutV_some]
  cases hs2 : digitB c with
  | true =>
   simp
   have hg := goes_ok l a false (by omega) Y lY hs
   refine PutA_eq hg ?_
   obtain ⟨m, hm⟩ : ∃ m, runN (pk false) (l.drop a) = m := ⟨_, rfl⟩
   have hml := runN_le (pk false) (l.drop a)
   have hdg := digits_run (p := digitB) (l.drop a)
   have hm' : runN digitB (l.drop a) = m := hm
   rw [hm'] at hdg
   rw [hm] at hml ⊢
   obtain ⟨e, he⟩ : ∃ e, e = a + m := ⟨_, rfl⟩
   have we : IntKind.i64.wrap ((a : Int) + m) = (e : Int) := by rw [wrap64 (by omega) (by omega)]; omega
   have sl := sls_mid l (a := a) (b := e) (by omega) (by omega)
   rw [show e - a = m by omega] at sl
   have ht : tokL (l.drop a) = match numL 0 ((l.drop a).take m) with
    | some n => if endsB letterB (l.drop e) = true then some (3, m, n) else none
    | none => none := by
    rw [hd] at hm' ⊢
    simp only [tokL, hs1, hs2, hm', if_true]
    rw [← hd, List.drop_drop, ← he]
    rfl
   simp [we, sl]
   refine PutA_eq (rnumber_ok ((l.drop a).take m) hdg Y lY (by simp; omega)) ?_
   obtain ⟨Z, eZ⟩ : ∃ Z, Z = (Y.new (.cells ⟨0, 2, true, 0, [[eI 0, eB false]]⟩)).setArr Y.objs.length ⟨0, 2, true, 0, [match numL 0 ((l.drop a).take m) with | some n => [eI n, eB true] | none => [eI 0, eB false]]⟩ := ⟨_, rfl⟩
   have FZ : Fwd [] Y Z := by rw [eZ]; exact ((Fwd.refl _ _).new _).set _ (.inr (Nat.le_refl _))
   have z0 := FZ.arr y0 (by simp)
   have z1 : Z.arr Y.objs.length 0 = some ⟨0, 2, true, 0, [match numL 0 ((l.drop a).take m) with | some n => [eI n, eB true] | none => [eI 0, eB false]]⟩ := by rw [eZ]; simp
   have lZ := FZ.limlen lY
   have lZ2 : Z.lim ≤ h0.objs.length := by rw [FZ.lim]; exact lY2
   have ltz := arr_lt z0
   have ltz1 := arr_lt z1
   cases hn : numL 0 ((l.drop a).take m) with
   | none =>
    rw [hn] at ht eZ z1
    simp [numA, ones, lk lY]
    rw [← eZ]
    simp [we]
    refine PutA_eq (rletter_ok l e (by omega) Z lZ) ?_
    simp [z1, z0, ltz, lZ2, Ends]
    simp [ht, tokA]
    rfl
   | some n =>
    rw [hn] at ht eZ z1
    simp [numA, ones, lk lY]
    rw [← eZ]
    simp [we]
    refine PutA_eq (rletter_ok l e (by omega) Z lZ) ?_
    cases he2 : endsB letterB (l.drop e) with
    | false =>
     simp [z1, z0, ltz, lZ2, Ends]
     simp [ht, he2, tokA]
     rfl
    | true =>
     simp [z1, z0, we, sl, ltz, lZ2, Ends]
     simp [ht, he2, tokA]
  | false =>
   by_cases h1 : (65 : Int) ≤ (c.toNat : Int)
   · by_cases h2 : (c.toNat : Int) ≤ 72
     · have h12 : (65 ≤ c.toNat ∧ c.toNat ≤ 72) = True := eq_true ⟨by omega, by omega⟩
       have ht : tokL (l.drop a) = if endsB letterB (l.drop b) = true ∧ endsB digitB (l.drop b) = true then some (2, 1, (c.toNat : Int) - 65) else none := by
        rw [hd]
        simp only [tokL, hs1, hs2, h12]
        rfl
       have hr : ∀ x, decide (0 < runN digitB x) = !endsB digitB x := by
        intro x
        cases x with
        | nil => rfl
        | cons d s => cases hq : digitB d <;> simp [runN, endsB, hq]
       have w1 : IntKind.u8.wrap ((c.toNat : Int) - 65) = (c.toNat : Int) - 65 := by simp [IntKind.wrap, IntKind.signed, IntKind.bits]; omega
       have w2 : IntKind.i64.wrap ((c.toNat : Int) - 65) = (c.toNat : Int) - 65 := wrap64 (by omega) (by omega)
       have sl := sls_mid l (a := a) (b := b) (by omega) (by omega)
       rw [show b - a = 1 by omega] at sl
       simp [h1, h2, wb]
       refine PutA_eq (rletter_ok l b (by omega) Y lY) ?_
       cases he : endsB letterB (l.drop b) with
       | false =>
        simp [y0, lt, lY2, Ends]
        simp [ht, he, tokA]
        rfl
       | true =>
        simp [wb]
        have hg := goes_ok l b false (by omega) Y lY hs
        refine PutA_eq hg ?_
        have hr := hr (l.drop b)
        rw [show pk false = digitB from rfl]
        cases he2 : endsB digitB (l.drop b) with
        | false =>
         rw [he2] at hr
         have hr : (0 < runN digitB (l.drop b)) = True := by simpa using hr
         simp [hr, y0, lt, lY2, Ends]
         simp [ht, he, he2, tokA]
         rfl
        | true =>
         rw [he2] at hr
         have hr : runN digitB (l.drop b) = 0 := by simpa using hr
         simp [hr, wb, sl, w1, w2, y0, lt, lY2, Ends]
         simp [ht, he, he2, tokA]
     · have h12 : (65 ≤ c.toNat ∧ c.toNat ≤ 72) = False := eq_false (by omega)
       simp [h1, h2]
       refine PutA_eq (rsign_ok l a ha Y lY hs) ?_
       obtain ⟨m, hm⟩ : ∃ m, signN (l.drop a) = m := ⟨_, rfl⟩
       have hts : tokL (l.drop a) = if m ≠ 0 then some (4, m, 0) else none := by
        rw [← hm, hd]
        simp only [tokL, hs1, hs2, h12]
        rfl
       rw [hm]
       by_cases hz : m = 0
       · simp [hz, y0, lt, lY2, Ends]
         simp [hts, hz, tokA]
         rfl
       · have hml : m ≤ l.length - a := by
          have := tokL_len (hts.trans (if_pos hz))
          omega
         have hz' : ((m : Int) = 0) = False := eq_false (by omega)
         obtain ⟨e, he⟩ : ∃ e, e = a + m := ⟨_, rfl⟩
         have we : IntKind.i64.wrap ((a : Int) + m) = (e : Int) := by rw [wrap64 (by omega) (by omega)]; omega
         have sl := sls_mid l (a := a) (b := e) (by omega) (by omega)
         rw [show e - a = m by omega] at sl
         simp [hz, we, sl, y0, lt, lY2, Ends]
         simp [hts, hz, tokA]
   · have h12 : (65 ≤ c.toNat ∧ c.toNat ≤ 72) = False := eq_false (by omega)
     simp [h1]
     refine PutA_eq (rsign_ok l a ha Y lY hs) ?_
     obtain ⟨m, hm⟩ : ∃ m, signN (l.drop a) = m := ⟨_, rfl⟩
     have hts : tokL (l.drop a) = if m ≠ 0 then some (4, m, 0) else none := by
      rw [← hm, hd]
      simp only [tokL, hs1, hs2, h12]
      rfl
     rw [hm]
     by_cases hz : m = 0
     · simp [hz, y0, lt, lY2, Ends]
       simp [hts, hz, tokA]
       rfl
     · have hml : m ≤ l.length - a := by
        have := tokL_len (hts.trans (if_pos hz))
        omega
       have hz' : ((m : Int) = 0) = False := eq_false (by omega)
       obtain ⟨e, he⟩ : ∃ e, e = a + m := ⟨_, rfl⟩
       have we : IntKind.i64.wrap ((a : Int) + m) = (e : Int) := by rw [wrap64 (by omega) (by omega)]; omega
       have sl := sls_mid l (a := a) (b := e) (by omega) (by omega)
       rw [show e - a = m by omega] at sl
       simp [hz, we, sl, y0, lt, lY2, Ends]
       simp [hts, hz, tokA]
end Dk.M
