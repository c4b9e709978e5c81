/- The document's lexer: its small functions, at D. -/
import Derived.Test.YtalodgghnpnnkaaDoorRk
set_option linter.unusedVariables false
set_option linter.unusedSimpArgs false
set_option linter.unusedSectionVars false
namespace Dk.M
open Go Dk
variable [Mx]
def capB (c : UInt8) : Bool := decide (65 ≤ c.toNat) && decide (c.toNat ≤ 90)
theorem rsmall_ok : IsB n_sibylref02_small smallB := fun c h hl => by
 refine call_loc noExt_mono (f := n_sibylref02_small) rfl rfl rfl fun h0 e0 el => ?_
 by_cases h1 : (97 : Int) ≤ (c.toNat : Int)
 · by_cases h2 : (c.toNat : Int) ≤ 122
   · simp [h1, h2, Ends, smallB]
     omega
   · simp [h1, h2, Ends, smallB]
     omega
 · simp [h1, Ends, smallB]
   omega
theorem rdigit_ok : IsB n_sibylref02_digit digitB := fun c h hl => by
 refine call_loc noExt_mono (f := n_sibylref02_digit) rfl rfl rfl fun h0 e0 el => ?_
 by_cases h1 : (48 : Int) ≤ (c.toNat : Int)
 · by_cases h2 : (c.toNat : Int) ≤ 57
   · simp [h1, h2, Ends, digitB]
     omega
   · simp [h1, h2, Ends, digitB]
     omega
 · simp [h1, Ends, digitB]
   omega
theorem rcap_ok : IsB n_sibylref02_capital capB := fun c h hl => by
 refine call_loc noExt_mono (f := n_sibylref02_capital) rfl rfl rfl fun h0 e0 el => ?_
 by_cases h1 : (65 : Int) ≤ (c.toNat : Int)
 · by_cases h2 : (c.toNat : Int) ≤ 90
   · simp [h1, h2, Ends, capB]
     omega
   · simp [h1, h2, Ends, capB]
     omega
 · simp [h1, Ends, capB]
   omega
omit [Mx] in
theorem u8_eq (c : UInt8) (n : UInt8) : decide ((c.toNat : Int) = (n.toNat : Int)) = decide (c = n) := by
 by_cases q : c = n
 · subst q; simp
 · have : ¬ (c.toNat : Int) = (n.toNat : Int) := fun e => q (UInt8.toNat_inj.1 (by omega))
   simp [q, this]
theorem rblank_ok : IsB n_sibylref02_blank blankB := fun c h hl => by
 refine call_loc noExt_mono (f := n_sibylref02_blank) rfl rfl rfl fun h0 e0 el => ?_
 have e1 : decide ((c.toNat : Int) = 32) = decide (c = 32) := u8_eq c 32
 have e2 : decide ((c.toNat : Int) = 9) = decide (c = 9) := u8_eq c 9
 have e3 : decide ((c.toNat : Int) = 10) = decide (c = 10) := u8_eq c 10
 by_cases h1 : c = 32
 · subst h1
   simp [Ends]
   rfl
 · by_cases h2 : c = 9
   · subst h2
     simp [Ends]
     rfl
   · simp [e1, e2, e3, h1, h2, Ends, blankB, inB, blanks]
def pk (w : Bool) : UInt8 → Bool := if w then wordB else digitB
structure GoI (l : List UInt8) (a : Nat) (w : Bool) (X : Hp) (z : Nat) (fr : Fr) (h : Hp) : Prop where
 ex : ∃ n : Nat, n ≤ runN (pk w) (l.drop a) ∧ z = l.length - n ∧ h = X ∧ fr.get 0 = .p (.str (mkS l)) ∧ fr.get 1 = eI a ∧ fr.get 2 = eB w ∧ fr.get 7 = eI n
theorem goes_ok (l : List UInt8) (a : Nat) (w : Bool) (ha : a ≤ l.length) (h : Hp) (hl : h.lim ≤ h.objs.length) (hs : l.length < 2 ^ 62) : C0 n_sibylref02_goes [.p (.str (mkS l)), eI a, eB w] h = some (eI (runN (pk w) (l.drop a)), h) := by
 refine call_loc noExt_mono (f := n_sibylref02_goes) rfl rfl rfl fun h0 e0 el => ?_
 simp
 refine Run_loop (GoI l a w h0) (n := l.length) ⟨0, by omega, by omega, rfl, by simp, by simp, by simp, by simp⟩ ?_
 rintro z f1 h1 ⟨n, n1, n2, rfl, g0, g1, g2, g7⟩
 have hle := runN_le (pk w) (l.drop a)
 have hld : (l.drop a).length = l.length - a := by simp
 obtain ⟨k, hk⟩ : ∃ k, k = a + n := ⟨_, rfl⟩
 have wk : IntKind.i64.wrap ((a : Int) + n) = (k : Int) := by rw [wrap64 (by omega) (by omega)]; omega
 by_cases hn : k < l.length
 · have hg := runN_get n1 (by simp; omega)
   simp only [List.getElem_drop] at hg
   have hgk : l[a + n]'(by omega) = l[k] := by simp only [hk]
   rw [hgk] at hg
   have w1 : IntKind.i64.wrap ((n : Int) + 1) = ((n + 1 : Nat) : Int) := by rw [wrap64 (by omega) (by omega)]; omega
   simp [g0, g1, g2, g7, hn, wk]
   refine PutA_eq (rdigit_ok _ h1 (by omega)) ?_
   simp [g0, g1, g7, wk, hn]
   refine PutA_eq (rsmall_ok _ h1 (by omega)) ?_
   have fin : pk w l[k] = false → runN (pk w) (l.drop a) = n := fun hp => by
    have : ¬ n < runN (pk w) (l.drop a) := by rw [hg, hp]; simp
    omega
   have nxt : pk w l[k] = true → n < runN (pk w) (l.drop a) := fun hp => by rw [hg, hp]
   cases hd : digitB l[k] with
   | true =>
    have := nxt (by cases w <;> simp [pk, wordB, hd])
    simp [g7, w1]
    exact ⟨l.length - (n + 1), by omega, n + 1, by omega, rfl, rfl, by simp [g0], by simp [g1], by simp [g2], by simp⟩
   | false =>
    cases w with
    | false =>
     have := fin (by simp [pk, hd])
     simp [g2, g7, Ends, this]
    | true =>
     cases hq : smallB l[k] with
     | true =>
      have := nxt (by simp [pk, wordB, hq])
      simp [g2, g7, w1]
      exact ⟨l.length - (n + 1), by omega, n + 1, by omega, rfl, rfl, by simp [g0], by simp [g1], by simp [g2], by simp⟩
     | false =>
      have := fin (by simp [pk, wordB, hq, hd])
      simp [g2, g7, Ends, this]
 · have : runN (pk w) (l.drop a) = n := by omega
   simp [g0, g1, g7, wk, hn, Ends, this]
theorem rletter_ok (l : List UInt8) (a : Nat) (ha : a ≤ l.length) (h : Hp) (hl : h.lim ≤ h.objs.length) : C0 n_sibylref02_letter [.p (.str (mkS l)), eI a] h = some (eB (!endsB letterB (l.drop a)), h) := by
 refine call_loc noExt_mono (f := n_sibylref02_letter) rfl rfl rfl fun h0 e0 el => ?_
 by_cases hn : a < l.length
 · have hn' : ((l.length : Int) ≤ a) = False := eq_false (by omega)
   simp [hn, hn']
   refine PutA_eq (rsmall_ok _ h0 (by omega)) ?_
   simp [hn]
   refine PutA_eq (rcap_ok _ h0 (by omega)) ?_
   have hd : endsB letterB (l.drop a) = !letterB l[a] := by rw [List.drop_eq_getElem_cons hn]; rfl
   cases hq : smallB l[a] with
   | true => simp [Ends, hd, letterB, hq]
   | false => simp [Ends, hd, letterB, hq, capB]
 · have hn' : ((l.length : Int) ≤ a) = True := eq_true (by omega)
   have hd : l.drop a = [] := List.drop_eq_nil_of_le (by omega)
   simp [hn', Ends, hd, endsB]
def numA : Option Int → EV
 | some n => .agg [eI n, eB true]
 | none => .agg [eI 0, eB false]
structure RNum (l : List UInt8) (X : Hp) (B : Nat) (z : Nat) (fr : Fr) (h : Hp) : Prop where
 ex : ∃ (i : Nat) (n : Int), i ≤ l.length ∧ z = l.length - i ∧ numL 0 l = numL n (l.drop i) ∧ 0 ≤ n ∧ n ≤ 9223372036854775807 ∧ h = X ∧ fr.get 0 = .p (.str (mkS l)) ∧ fr.get 2 = .ptr B 0 0 0 ∧ fr.get 3 = eI n ∧ fr.get 4 = eI i
theorem rnumber_ok (l : List UInt8) (hd : ∀ c ∈ l, digitB c = true) (h : Hp) (hl : h.lim ≤ h.objs.length) (hs : l.length < 2 ^ 62) : C0 n_sibylref02_number [.p (.str (mkS l))] h = some (numA (numL 0 l), h) := by
 refine call_loc noExt_mono (f := n_sibylref02_number) rfl rfl (by cases numL 0 l <;> simp [numA]) fun h0 e0 el => ?_
 have hl : h0.lim ≤ h0.objs.length := by omega
 simp
 obtain ⟨X, eX⟩ : ∃ X, X = h0.new (.cells ⟨0, 2, true, 0, [[eI 0, eB false]]⟩) := ⟨_, rfl⟩
 have x1 : X.arr h0.objs.length 0 = some ⟨0, 2, true, 0, [[eI 0, eB false]]⟩ := by rw [eX]; simp
 have lX : X.lim ≤ h0.objs.length := by rw [eX]; simp; exact hl
 have lt1 := arr_lt x1
 rw [← eX]
 clear eX
 refine Run_loop (RNum l X h0.objs.length) (n := l.length) ⟨0, 0, by omega, by omega, rfl, by omega, by omega, rfl, by simp, by simp, by simp, by simp⟩ ?_
 rintro z f1 h1 ⟨i, n, i1, i2, i3, i4, i5, rfl, g0, g2, g3, g4⟩
 by_cases hi : i < l.length
 · have hc := hd l[i] (List.getElem_mem hi)
   simp only [digitB, Bool.and_eq_true, decide_eq_true_eq] at hc
   generalize hcc : l[i] = c at hc
   have w1 : IntKind.u8.wrap ((c.toNat : Int) - 48) = (c.toNat : Int) - 48 := by simp [IntKind.wrap, IntKind.signed, IntKind.bits]; omega
   have w2 : IntKind.i64.wrap ((c.toNat : Int) - 48) = (c.toNat : Int) - 48 := wrap64 (by omega) (by omega)
   have w3 : IntKind.i64.wrap (9223372036854775807 - ((c.toNat : Int) - 48)) = 9223372036854775807 - ((c.toNat : Int) - 48) := wrap64 (by omega) (by omega)
   have w4 : IntKind.i64.wrap ((9223372036854775807 - ((c.toNat : Int) - 48)).tdiv 10) = (9223372036854775807 - ((c.toNat : Int) - 48)) / 10 := by
    rw [Int.tdiv_eq_ediv_of_nonneg (by omega)]
    exact wrap64 (by omega) (by omega)
   have w5 : IntKind.i64.wrap ((i : Int) + 1) = ((i + 1 : Nat) : Int) := by rw [wrap64 (by omega) (by omega)]; simp
   rw [List.drop_eq_getElem_cons hi, hcc, numL] at i3
   simp [g0, g2, g3, g4, hi, hcc, w1, w2, w3, w4]
   by_cases hq : (9223372036854775807 - ((c.toNat : Int) - 48)) / 10 < n
   · rw [if_pos hq] at i3
     simp [hq, g2, x1, lX, lt1, Ends, i3, numA]
   · rw [if_neg hq] at i3
     have w6 : IntKind.i64.wrap (n * 10) = n * 10 := wrap64 (by omega) (by omega)
     have w7 : IntKind.i64.wrap (n * 10 + ((c.toNat : Int) - 48)) = n * 10 + ((c.toNat : Int) - 48) := wrap64 (by omega) (by omega)
     simp [hq, g0, g2, g3, g4, w5, w6, w7]
     exact ⟨l.length - (i + 1), by omega, i + 1, _, by omega, rfl, i3, by omega, by omega, rfl, by simp [g0], by simp [g2], by simp, by simp⟩
 · have : l.drop i = [] := List.drop_eq_nil_of_le (by omega)
   rw [this, numL] at i3
   simp [g0, g2, g3, g4, hi, x1, lX, lt1, Ends, i3, numA]
end Dk.M
