/- stringslite.Index finds nothing where a text does not occur. -/
import Derived.Test.YtalodgghnpnnkaaDoorRk
set_option linter.unusedVariables false
set_option linter.unusedSimpArgs false
set_option linter.unusedSectionVars false
namespace Dk.M
open Go Dk
variable [Mx]
omit [Mx] in
theorem Nowhere.tail {c : UInt8} {t s : List UInt8} (h : Nowhere (c :: t) s) : Nowhere t s := fun i => by
 have := h (i + 1)
 simpa using this
omit [Mx] in
theorem Nowhere.drop {t s : List UInt8} (h : Nowhere t s) (n : Nat) : Nowhere (t.drop n) s := fun i => by
 have := h (n + i)
 rwa [← List.drop_drop] at this
omit [Mx] in
theorem idxL_none : ∀ {t s : List UInt8} (k : Nat), Nowhere t s → idxL s t k = -1
 | [], s, k, h => by
  have : s ≠ [] := fun e => h 0 (by simp [e])
  simp [idxL, this]
 | c :: t, s, k, h => by
  have h1 : s.isPrefixOf (c :: t) = false := by
   cases q : s.isPrefixOf (c :: t) with
   | false => rfl
   | true =>
    rw [List.isPrefixOf_iff_prefix] at q
    exact absurd ((List.prefix_iff_eq_take.1 q).symm) (h 0)
  simp only [idxL, h1]
  exact idxL_none (k + 1) h.tail
omit [Mx] in
theorem idxB_lt (c : UInt8) : ∀ (l : List UInt8) (k : Nat), idxB c l k = -1 ∨ ∃ j : Nat, idxB c l k = (j : Int) ∧ k ≤ j ∧ j < k + l.length
 | [], k => .inl rfl
 | b :: l, k => by
  unfold idxB
  split
  · exact .inr ⟨k, rfl, by omega, by simp⟩
  · rcases idxB_lt c l (k + 1) with q | ⟨j, q, h1, h2⟩
    · exact .inl q
    · exact .inr ⟨j, q, by omega, by simp; omega⟩
theorem idxb2_ok (l : List UInt8) (c : UInt8) (h : Hp) (hl : h.lim ≤ h.objs.length) : C0 n_internal_stringslite_IndexByte [.p (.str (mkS l)), eU c] h = some (eI (idxB c l 0), h) := by
 refine call_loc noExt_mono (f := n_internal_stringslite_IndexByte) (v := eI (idxB c l 0)) rfl rfl rfl fun h1 e1 el1 => ?_
 simp
 rw [Run_look (hk := rfl)]
 simp [look, Ends]
structure IxI (t s : List UInt8) (c0 c1 : UInt8) (e : Nat) (X : Hp) (z : Nat) (fr : Fr) (h : Hp) : Prop where
 ex : ∃ i f : Nat, f ≤ i ∧ i ≤ t.length ∧ z = t.length - i ∧ h = X ∧ fr.get 0 = .p (.str (mkS t)) ∧ fr.get 1 = .p (.str (mkS s)) ∧ fr.get 5 = eI s.length ∧ fr.get 6 = eU c0 ∧ fr.get 7 = eU c1 ∧ fr.get 8 = eI i ∧ fr.get 9 = eI e ∧ fr.get 10 = eI f
theorem index_none {t s : List UInt8} (h2 : 2 ≤ s.length) (ht : t.length ≤ 64) (hs : s.length < 2 ^ 62) (no : Nowhere t s) (h : Hp) (hl : h.lim ≤ h.objs.length) : C0 n_internal_stringslite_Index [.p (.str (mkS t)), .p (.str (mkS s))] h = some (eI (-1), h) := by
 refine call_loc noExt_mono (f := n_internal_stringslite_Index) rfl rfl rfl fun h0 e0 el => ?_
 have hl : h0.lim ≤ h0.objs.length := by omega
 have n0 : (s = []) = False := eq_false (by rintro rfl; simp at h2)
 have n1 : ((s.length : Int) = 1) = False := eq_false (by omega)
 have ne : s ≠ t := fun e => no 0 (by rw [e]; simp)
 by_cases hst : t.length ≤ s.length
 · have : ((t.length : Int) ≤ s.length) = True := eq_true (by omega)
   simp [n0, n1, str_eql, ne, this, Ends]
 · have hst' : ((t.length : Int) ≤ s.length) = False := eq_false (by omega)
   by_cases hm : (s.length : Int) ≤ Mx.m
   · have ht64 : ((t.length : Int) ≤ 64) = True := eq_true (by omega)
     simp [n0, n1, str_eql, ne, hst', hm, ht64]
     rw [Run_look (hk := rfl)]
     have b1 : Nat.ble 2 s.length = true := Nat.ble_eq_true_of_le h2
     have b2 : sizeLe s.length Mx.m = true := by
      cases hq : Mx.m with
      | ofNat k => rw [hq] at hm; simp only [sizeLe]; exact Nat.ble_eq_true_of_le (by have : (s.length : Int) ≤ (k : Int) := hm; omega)
      | negSucc k => rw [hq] at hm; omega
     have b3 : Nat.ble t.length 4294967280 = true := Nat.ble_eq_true_of_le (by omega)
     simp only [look, ev_t, get_cons, get_nil, mkS_size, mkS_data]
     simp [b1, b2, b3, idxL_none 0 no, Ends]
   · have g0 : (0 < s.length) = True := eq_true (by omega)
     have g1 : ((1 : Int) < s.length) = True := eq_true (by omega)
     have g2 : (1 < s.length) = True := eq_true (by omega)
     have l0 : s[0]? = some (s[0]'(by omega)) := List.getElem?_eq_getElem _
     have l1 : s[1]? = some (s[1]'(by omega)) := List.getElem?_eq_getElem _
     have w1 : IntKind.i64.wrap ((t.length : Int) - s.length) = ((t.length - s.length : Nat) : Int) := by rw [wrap64 (by omega) (by omega)]; omega
     obtain ⟨e, he⟩ : ∃ e, e = t.length - s.length + 1 := ⟨_, rfl⟩
     have w2 : IntKind.i64.wrap (((t.length - s.length : Nat) : Int) + 1) = (e : Int) := by rw [wrap64 (by omega) (by omega)]; omega
     have hm' : Mx.m < s.length := by omega
     obtain ⟨c0, hc0⟩ : ∃ c, s[0]'(by omega) = c := ⟨_, rfl⟩
     obtain ⟨c1, hc1⟩ : ∃ c, s[1]'(by omega) = c := ⟨_, rfl⟩
     rw [hc0] at l0
     rw [hc1] at l1
     simp [n0, n1, str_eql, ne, hst', hm, idx, g0, g1, g2, w1, w2, l0, l1, hc0, hc1]
     refine Run_loop (IxI t s c0 c1 e h0) (n := t.length) ⟨0, 0, by omega, by omega, rfl, rfl, by simp, by simp, by simp, by simp, by simp, by simp, by simp, by simp⟩ ?_
     rintro z fr h1 ⟨i, f, i1, i2, i3, rfl, f0, f1, f5, f6, f7, f8, f9, f10⟩
     by_cases hie : i < e
     · have hit : i < t.length := by omega
       by_cases hc : (t[i].toNat : Int) = (c0.toNat : Int)
       · obtain ⟨j, hj⟩ : ∃ j, j = i + 1 := ⟨_, rfl⟩
         obtain ⟨m, hm2⟩ : ∃ m, m = i + s.length := ⟨_, rfl⟩
         obtain ⟨g, hg⟩ : ∃ g, g = f + 1 := ⟨_, rfl⟩
         have w5 : IntKind.i64.wrap ((i : Int) + 1) = (j : Int) := by rw [wrap64 (by omega) (by omega)]; omega
         have w6 : IntKind.i64.wrap ((i : Int) + s.length) = (m : Int) := by rw [wrap64 (by omega) (by omega)]; omega
         have w7 : IntKind.i64.wrap ((f : Int) + 1) = (g : Int) := by rw [wrap64 (by omega) (by omega)]; omega
         have hjt : j < t.length := by omega
         have sl := sls_mid t (a := i) (b := m) (by omega) (by omega)
         have nk : (t.drop i).take (m - i) ≠ s := by rw [show m - i = s.length by omega]; exact no i
         have hsh := shr_nat .i64 j 4 (by decide)
         simp only [Int.cast_ofNat_Int] at hsh
         have hjq : j / 2 ^ 4 ≤ j := Nat.div_le_self _ _
         generalize j / 2 ^ 4 = jq at hsh hjq
         obtain ⟨q, hq⟩ : ∃ q, q = 4 + jq := ⟨_, rfl⟩
         have w8 : IntKind.i64.wrap (4 + (jq : Int)) = (q : Int) := by rw [wrap64 (by omega) (by omega)]; omega
         simp [f0, f1, f5, f6, f7, f8, f9, f10, hie, hit, hc, w5, hjt]
         generalize decide (_ = (c1.toNat : Int)) = d
         cases d with
         | true =>
          simp [f0, f1, f5, f6, f7, f9, f10, hm, hm', w5, w6, w7, w8, sl, str_eql, nk, hsh]
          by_cases hge : q ≤ g
          · by_cases hje : j < e
            · simp [f0, f1, f5, f6, f7, f9, f10, hge, hje, sls_lo t (show j ≤ t.length by omega)]
              refine PutA_eq (rk_none (t := t.drop j) (s := s) (by simp; omega) (by simp; omega) (no.drop j) h1 (by omega)) ?_
              simp [Ends]
            · simp [f0, f1, f5, f6, f7, f9, f10, hge, hje]
              exact ⟨t.length - j, by omega, j, g, by omega, by omega, rfl, rfl, by simp [f0], by simp [f1], by simp [f5], by simp [f6], by simp [f7], by simp, by simp [f9], by simp⟩
          · simp [f0, f1, f5, f6, f7, f9, f10, hge]
            exact ⟨t.length - j, by omega, j, g, by omega, by omega, rfl, rfl, by simp [f0], by simp [f1], by simp [f5], by simp [f6], by simp [f7], by simp, by simp [f9], by simp⟩
         | false =>
          simp [f0, f1, f5, f6, f7, f9, f10, hm, hm', w5, w6, w7, w8, sl, str_eql, nk, hsh]
          by_cases hge : q ≤ g
          · by_cases hje : j < e
            · simp [f0, f1, f5, f6, f7, f9, f10, hge, hje, sls_lo t (show j ≤ t.length by omega)]
              refine PutA_eq (rk_none (t := t.drop j) (s := s) (by simp; omega) (by simp; omega) (no.drop j) h1 (by omega)) ?_
              simp [Ends]
            · simp [f0, f1, f5, f6, f7, f9, f10, hge, hje]
              exact ⟨t.length - j, by omega, j, g, by omega, by omega, rfl, rfl, by simp [f0], by simp [f1], by simp [f5], by simp [f6], by simp [f7], by simp, by simp [f9], by simp⟩
          · simp [f0, f1, f5, f6, f7, f9, f10, hge]
            exact ⟨t.length - j, by omega, j, g, by omega, by omega, rfl, rfl, by simp [f0], by simp [f1], by simp [f5], by simp [f6], by simp [f7], by simp, by simp [f9], by simp⟩
       · obtain ⟨a, ha⟩ : ∃ a, a = i + 1 := ⟨_, rfl⟩
         have w9 : IntKind.i64.wrap ((i : Int) + 1) = (a : Int) := by rw [wrap64 (by omega) (by omega)]; omega
         simp [f0, f1, f5, f6, f7, f8, f9, f10, hie, hit, hc, w9, sls_mid t (show a ≤ e by omega) (show e ≤ t.length by omega)]
         refine PutA_eq (idxb2_ok _ _ h1 (by omega)) ?_
         rcases idxB_lt c0 ((t.drop a).take (e - a)) 0 with hx | ⟨o, hx, -, ho⟩
         · simp [hx, Ends]
         · simp only [List.length_take, List.length_drop] at ho
           obtain ⟨b, hb⟩ : ∃ b, b = o + 1 := ⟨_, rfl⟩
           obtain ⟨i2, hi2⟩ : ∃ i2, i2 = i + b := ⟨_, rfl⟩
           have w10 : IntKind.i64.wrap ((o : Int) + 1) = (b : Int) := by rw [wrap64 (by omega) (by omega)]; omega
           have w11 : IntKind.i64.wrap ((i : Int) + b) = (i2 : Int) := by rw [wrap64 (by omega) (by omega)]; omega
           have ho0 : ((o : Int) < 0) = False := eq_false (by omega)
           simp [f0, f1, f5, f6, f7, f8, f9, f10, hx, ho0, w10, w11]
           obtain ⟨j, hj⟩ : ∃ j, j = i2 + 1 := ⟨_, rfl⟩
           obtain ⟨m, hm2⟩ : ∃ m, m = i2 + s.length := ⟨_, rfl⟩
           obtain ⟨g, hg⟩ : ∃ g, g = f + 1 := ⟨_, rfl⟩
           have w5 : IntKind.i64.wrap ((i2 : Int) + 1) = (j : Int) := by rw [wrap64 (by omega) (by omega)]; omega
           have w6 : IntKind.i64.wrap ((i2 : Int) + s.length) = (m : Int) := by rw [wrap64 (by omega) (by omega)]; omega
           have w7 : IntKind.i64.wrap ((f : Int) + 1) = (g : Int) := by rw [wrap64 (by omega) (by omega)]; omega
           have hjt : j < t.length := by omega
           have sl := sls_mid t (a := i2) (b := m) (by omega) (by omega)
           have nk : (t.drop i2).take (m - i2) ≠ s := by rw [show m - i2 = s.length by omega]; exact no i2
           have hsh := shr_nat .i64 j 4 (by decide)
           simp only [Int.cast_ofNat_Int] at hsh
           have hjq : j / 2 ^ 4 ≤ j := Nat.div_le_self _ _
           generalize j / 2 ^ 4 = jq at hsh hjq
           obtain ⟨q, hq⟩ : ∃ q, q = 4 + jq := ⟨_, rfl⟩
           have w8 : IntKind.i64.wrap (4 + (jq : Int)) = (q : Int) := by rw [wrap64 (by omega) (by omega)]; omega
           simp [f0, f1, f5, f6, f7, f9, f10, w5, hjt]
           generalize decide (_ = (c1.toNat : Int)) = d
           cases d with
            | true =>
             simp [f0, f1, f5, f6, f7, f9, f10, hm, hm', w5, w6, w7, w8, sl, str_eql, nk, hsh]
             by_cases hge : q ≤ g
             · by_cases hje : j < e
               · simp [f0, f1, f5, f6, f7, f9, f10, hge, hje, sls_lo t (show j ≤ t.length by omega)]
                 refine PutA_eq (rk_none (t := t.drop j) (s := s) (by simp; omega) (by simp; omega) (no.drop j) h1 (by omega)) ?_
                 simp [Ends]
               · simp [f0, f1, f5, f6, f7, f9, f10, hge, hje]
                 exact ⟨t.length - j, by omega, j, g, by omega, by omega, rfl, rfl, by simp [f0], by simp [f1], by simp [f5], by simp [f6], by simp [f7], by simp, by simp [f9], by simp⟩
             · simp [f0, f1, f5, f6, f7, f9, f10, hge]
               exact ⟨t.length - j, by omega, j, g, by omega, by omega, rfl, rfl, by simp [f0], by simp [f1], by simp [f5], by simp [f6], by simp [f7], by simp, by simp [f9], by simp⟩
            | false =>
             simp [f0, f1, f5, f6, f7, f9, f10, hm, hm', w5, w6, w7, w8, sl, str_eql, nk, hsh]
             by_cases hge : q ≤ g
             · by_cases hje : j < e
               · simp [f0, f1, f5, f6, f7, f9, f10, hge, hje, sls_lo t (show j ≤ t.length by omega)]
                 refine PutA_eq (rk_none (t := t.drop j) (s := s) (by simp; omega) (by simp; omega) (no.drop j) h1 (by omega)) ?_
                 simp [Ends]
               · simp [f0, f1, f5, f6, f7, f9, f10, hge, hje]
                 exact ⟨t.length - j, by omega, j, g, by omega, by omega, rfl, rfl, by simp [f0], by simp [f1], by simp [f5], by simp [f6], by simp [f7], by simp, by simp [f9], by simp⟩
             · simp [f0, f1, f5, f6, f7, f9, f10, hge]
               exact ⟨t.length - j, by omega, j, g, by omega, by omega, rfl, rfl, by simp [f0], by simp [f1], by simp [f5], by simp [f6], by simp [f7], by simp, by simp [f9], by simp⟩
     · simp [f0, f1, f5, f6, f7, f8, f9, f10, hie, Ends]
end Dk.M
