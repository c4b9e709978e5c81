/- The lexer's small functions, at D. -/
import Derived.Test.YtalodgghnpnnkaaDoorLexT
set_option linter.unusedVariables false
set_option linter.unusedSimpArgs false
set_option linter.unusedSectionVars false
namespace Dk.M
open Go Dk
variable [Mx]
abbrev eU (c : UInt8) : EV := .p (.int .u8 (c.toNat : Int))
def IsB (f : Nat) (p : UInt8 → Bool) : Prop := ∀ (c : UInt8) (h : Hp), h.lim ≤ h.objs.length → C0 f [eU c] h = some (eB (p c), h)
theorem small_ok : IsB n_lex_small smallB := fun c h hl => by
 refine call_loc noExt_mono (f := n_lex_small) rfl rfl rfl fun h0 e0 el => ?_
 by_cases h1 : (97 : Int) ≤ (c.toNat : Int)
 · by_cases h2 : (c.toNat : Int) ≤ 122
   · simp [h1, h2, Ends, smallB]
     omega
   · simp [h1, h2, Ends, smallB]
     omega
 · simp [h1, Ends, smallB]
   omega
theorem digit_ok : IsB n_lex_digit digitB := fun c h hl => by
 refine call_loc noExt_mono (f := n_lex_digit) rfl rfl rfl fun h0 e0 el => ?_
 by_cases h1 : (48 : Int) ≤ (c.toNat : Int)
 · by_cases h2 : (c.toNat : Int) ≤ 57
   · simp [h1, h2, Ends, digitB]
     omega
   · simp [h1, h2, Ends, digitB]
     omega
 · simp [h1, Ends, digitB]
   omega
theorem letter_ok : IsB n_lex_letter letterB := fun c h hl => by
 refine call_loc noExt_mono (f := n_lex_letter) rfl rfl rfl fun h0 e0 el => ?_
 simp
 refine PutA_eq (small_ok c h0 (by omega)) ?_
 cases hs : smallB c with
 | true => simp [Ends, letterB, hs]
 | false =>
  by_cases h1 : (65 : Int) ≤ (c.toNat : Int)
  · by_cases h2 : (c.toNat : Int) ≤ 90
    · simp [h1, h2, Ends, letterB, hs]
      omega
    · simp [h1, h2, Ends, letterB, hs]
      omega
  · simp [h1, Ends, letterB, hs]
    omega
theorem word_ok : IsB n_lex_next_1 wordB := fun c h hl => by
 refine call_loc noExt_mono (f := n_lex_next_1) rfl rfl rfl fun h0 e0 el => ?_
 simp
 refine PutA_eq (small_ok c h0 (by omega)) ?_
 cases hs : smallB c with
 | true => simp [Ends, wordB, hs]
 | false =>
  simp
  refine PutA_eq (digit_ok c h0 (by omega)) ?_
  simp [Ends, wordB, hs]
theorem idxB_ge (d : UInt8) : ∀ (l : List UInt8) (k : Nat), decide (0 ≤ idxB d l k) = l.contains d
 | [], k => by simp [idxB]
 | b :: l, k => by
  have ih := idxB_ge d l (k + 1)
  unfold idxB
  by_cases h : b = d
  · subst h
    simp
  · have h' : (d == b) = false := by simpa using fun q => h q.symm
    simp only [beq_eq_false_iff_ne.2 h, List.contains_cons, h', Bool.false_or]
    simpa using ih
theorem sls_hi (l : List UInt8) {b : Nat} (h : b ≤ l.length) : sliceStr (.p (.str (mkS l))) none (some (eI b)) = some (.p (.str (mkS (l.take b)))) := by
 simp [sliceStr, bounds, upper, lower, bound, mkS_ext, h]
theorem sls_lo (l : List UInt8) {a : Nat} (h : a ≤ l.length) : sliceStr (.p (.str (mkS l))) (some (eI a)) none = some (.p (.str (mkS (l.drop a)))) := by
 simp [sliceStr, bounds, upper, lower, bound, mkS_ext, h]
theorem idxb_ok (l : List UInt8) (c : UInt8) (h : Hp) (hl : h.lim ≤ h.objs.length) : C0 n_strings_IndexByte [.p (.str (mkS l)), eU c] h = some (eI (idxB c l 0), h) := by
 refine call_loc noExt_mono (f := n_strings_IndexByte) rfl rfl rfl fun h0 e0 el => ?_
 simp
 refine PutA_eq (call_loc noExt_mono (f := n_internal_stringslite_IndexByte) (v := eI (idxB c l 0)) rfl rfl rfl fun h1 e1 el1 => ?_) ?_
 · simp
   rw [Run_look (hk := rfl)]
   simp [look, Ends]
 · simp [Ends]
theorem str_eql (a b : List UInt8) : binOp .eql .none (.p (.str (mkS a))) (.p (.str (mkS b))) = some (eB (decide (a = b))) := by
 have e : ∀ l : List UInt8, (mkS l).toList = l := fun l => by rw [ByteArray.toList_eq]; simp
 by_cases h : a = b <;> simp [binOp, strBin, e, h]
theorem str_neq (a b : List UInt8) : binOp .neq .none (.p (.str (mkS a))) (.p (.str (mkS b))) = some (eB (!decide (a = b))) := by
 have e : ∀ l : List UInt8, (mkS l).toList = l := fun l => by rw [ByteArray.toList_eq]; simp
 by_cases h : a = b <;> simp [binOp, strBin, e, h, bne]
theorem ends_ok {f : Nat} {p : UInt8 → Bool} (hf : IsB f p) (l : List UInt8) (h : Hp) (hl : h.lim ≤ h.objs.length) : C0 n_lex_ends [.p (.str (mkS l)), .fn (.func f) [] []] h = some (eB (endsB p l), h) := by
 refine call_loc noExt_mono (f := n_lex_ends) rfl rfl rfl fun h0 e0 el => ?_
 simp
 rw [show bs [] = mkS [] from rfl, str_eql]
 cases l with
 | nil => simp [Ends, endsB]
 | cons c r =>
  simp [idx]
  refine PutA_eq (hf c h0 (by omega)) ?_
  simp [Ends, endsB]
theorem runN_at {p : UInt8 → Bool} : ∀ (l : List UInt8) (n : Nat), n ≤ runN p l → runN p l = n + runN p (l.drop n)
 | l, 0, _ => by simp
 | [], n + 1, h => by simp [runN] at h
 | c :: r, n + 1, h => by
  simp only [runN] at h ⊢
  split at h
  · rename_i q
    rw [if_pos q, List.drop_succ_cons, runN_at r n (by omega)]
    omega
  · omega
theorem runN_get {p : UInt8 → Bool} {l : List UInt8} {n : Nat} (h : n ≤ runN p l) (hn : n < l.length) : n < runN p l ↔ p l[n] = true := by
 have k := runN_at l n h
 rw [List.drop_eq_getElem_cons hn, runN] at k
 by_cases q : p l[n] = true
 · rw [if_pos q] at k
   simp only [q, iff_true]
   omega
 · rw [if_neg q] at k
   exact ⟨fun _ => by omega, fun h => absurd h q⟩
structure RunI (l : List UInt8) (f : Nat) (p : UInt8 → Bool) (X : Hp) (z : Nat) (fr : Fr) (h : Hp) : Prop where
 ex : ∃ n : Nat, n ≤ runN p l ∧ z = l.length - n ∧ h = X ∧ fr.get 0 = .p (.str (mkS l)) ∧ fr.get 1 = .fn (.func f) [] [] ∧ fr.get 5 = eI n
theorem run_ok {f : Nat} {p : UInt8 → Bool} (hf : IsB f p) (l : List UInt8) (h : Hp) (hl : h.lim ≤ h.objs.length) (hs : l.length < 2 ^ 62) : C0 n_lex_run [.p (.str (mkS l)), .fn (.func f) [] []] h = some (eI (runN p l), h) := by
 refine call_loc noExt_mono (f := n_lex_run) rfl rfl rfl fun h0 e0 el => ?_
 simp
 refine Run_loop (RunI l f p h0) (n := l.length) ⟨0, by omega, by omega, rfl, by simp, by simp, by simp⟩ ?_
 rintro z f1 h1 ⟨n, n1, n2, rfl, g0, g1, g5⟩
 have hle := runN_le p l
 by_cases hn : n < l.length
 · have hg := runN_get n1 hn
   simp [g0, g1, g5, hn]
   refine PutA_eq (hf _ _ (by omega)) ?_
   cases hp : p l[n] with
   | false =>
    have : runN p l = n := by
     have : ¬ n < runN p l := by rw [hg, hp]; simp
     omega
    simp [g0, g1, g5, Ends, this]
   | true =>
    have : n < runN p l := by rw [hg, hp]
    simp [g0, g1, g5]
    have w : IntKind.i64.wrap ((n : Int) + 1) = ((n + 1 : Nat) : Int) := by rw [wrap64 (by omega) (by omega)]; simp
    rw [w]
    exact ⟨l.length - (n + 1), by omega, n + 1, by omega, rfl, rfl, by simp [g0], by simp [g1], by simp⟩
 · have : runN p l = n := by omega
   simp [g0, g1, g5, hn, Ends, this]
structure SkipI (l : List UInt8) (a : Nat) (X : Hp) (z : Nat) (fr : Fr) (h : Hp) : Prop where
 ex : ∃ n : Nat, n ≤ runN blankB (l.drop a) ∧ z = l.length - n ∧ h = X ∧ fr.get 0 = .p (.str (mkS l)) ∧ fr.get 1 = eI (a + n : Nat)
theorem skip_ok (l : List UInt8) (a : Nat) (ha : a ≤ l.length) (h : Hp) (hl : h.lim ≤ h.objs.length) (hs : l.length < 2 ^ 62) : C0 n_lex_skip [.p (.str (mkS l)), eI a] h = some (eI (a + runN blankB (l.drop a) : Nat), h) := by
 refine call_loc noExt_mono (f := n_lex_skip) rfl rfl rfl fun h0 e0 el => ?_
 simp
 refine Run_loop (SkipI l a h0) (n := l.length) ⟨0, by omega, by omega, rfl, by simp, by simp⟩ ?_
 rintro z f1 h1 ⟨n, n1, n2, rfl, g0, g1⟩
 have hle := runN_le blankB (l.drop a)
 have hld : (l.drop a).length = l.length - a := by simp
 by_cases hn : a + n < l.length
 · have hg := runN_get n1 (by simp; omega)
   simp only [List.getElem_drop] at hg
   have hn' : ((a : Int) + n < l.length) = True := eq_true (by omega)
   have hi : idx (eI ((a : Int) + n)) l.length = some (a + n) := by rw [← Int.natCast_add, idx_nat, if_pos hn]
   simp [g0, g1, hn', hi, hn]
   refine PutA_eq (idxb_ok blanks _ _ (by omega)) ?_
   have hb : decide (0 ≤ idxB l[a + n] blanks 0) = blankB l[a + n] := idxB_ge _ _ _
   simp only [PutV_some]
   cases hp : blankB l[a + n] with
   | false =>
    have : runN blankB (l.drop a) = n := by
     have : ¬ n < runN blankB (l.drop a) := by rw [hg, hp]; simp
     omega
    simp [g0, g1, Ends, this, hb, hp]
   | true =>
    have : n < runN blankB (l.drop a) := by rw [hg, hp]
    simp [g0, g1, hb, hp]
    have w : IntKind.i64.wrap ((a : Int) + n + 1) = ((a + (n + 1) : Nat) : Int) := by rw [wrap64 (by omega) (by omega)]; omega
    rw [w]
    exact ⟨l.length - (n + 1), by omega, n + 1, by omega, rfl, rfl, by simp [g0], by simp⟩
 · have : runN blankB (l.drop a) = n := by omega
   have hn' : ((a : Int) + n < l.length) = False := eq_false (by omega)
   simp [g0, g1, hn', Ends, this]
theorem sign_ok (c : UInt8) (r : List UInt8) (h : Hp) (hl : h.lim ≤ h.objs.length) : C0 n_lex_sign [.p (.str (mkS (c :: r)))] h = some (.p (.str (mkS ((c :: r).take (signN (c :: r))))), h) := by
 refine call_loc noExt_mono (f := n_lex_sign) rfl rfl rfl fun h0 e0 el => ?_
 have b1 : decide (0 ≤ idxB c signs1 0) = inB signs1 c := idxB_ge _ _ _
 have b2 : decide (0 ≤ idxB c signs2 0) = inB signs2 c := idxB_ge _ _ _
 cases r with
 | nil =>
  simp [idx]
  refine PutA_eq (idxb_ok signs1 c h0 (by omega)) ?_
  simp only [PutV_some]
  cases h1 : inB signs1 c with
  | true =>
   simp [b1, h1]
   have := sls_hi [c] (b := 1) (by simp)
   simp only [Int.natCast_one, Int.cast_ofNat_Int] at this
   simp [this, Ends, signN,  h1]
  | false =>
   simp [b1, h1, Ends, signN, ]
   rfl
 | cons d s =>
  have hd : decide ((d.toNat : Int) = 61) = decide (d = 61) := by
   by_cases q : d = 61
   · subst q; rfl
   · have : ¬ (d.toNat : Int) = 61 := fun e => q (UInt8.toNat_inj.1 (by have : (61 : UInt8).toNat = 61 := rfl; omega))
     simp [q, this]
  have l0 : ((0 : Int) < (s.length : Int) + 2) = True := eq_true (by omega)
  have ln : ((1 : Int) < (s.length : Int) + 2) = True := eq_true (by omega)
  by_cases q : d = 61
  · subst q
    have q : (61 : UInt8) = 61 := rfl
    have hd : (((61 : UInt8).toNat : Int) = 61) = True := eq_true rfl
    simp [idx, l0, ln, hd]
    refine PutA_eq (idxb_ok signs2 c h0 (by omega)) ?_
    simp only [PutV_some]
    cases h2 : inB signs2 c with
    | true =>
     simp [b2, h2]
     have := sls_hi (c :: 61 :: s) (b := 2) (by simp)
     simp only [Int.cast_ofNat_Int] at this
     simp [this, Ends, signN, q, h2]
    | false =>
     simp [b2, h2, idx, l0]
     refine PutA_eq (idxb_ok signs1 c h0 (by omega)) ?_
     simp only [PutV_some]
     cases h1 : inB signs1 c with
     | true =>
      simp [b1, h1]
      have := sls_hi (c :: 61 :: s) (b := 1) (by simp)
      simp only [Int.natCast_one, Int.cast_ofNat_Int] at this
      simp [this, Ends, signN, q, h2,  h1]
     | false =>
      simp [b1, h1, Ends, signN, q, h2, ]
      rfl
  · have hd : ((d.toNat : Int) = 61) = False := by simp [q] at hd ⊢ <;> exact hd
    simp [idx, l0, ln, hd]
    refine PutA_eq (idxb_ok signs1 c h0 (by omega)) ?_
    simp only [PutV_some]
    cases h1 : inB signs1 c with
    | true =>
     simp [b1, h1]
     have := sls_hi (c :: d :: s) (b := 1) (by simp)
     simp only [Int.natCast_one, Int.cast_ofNat_Int] at this
     simp [this, Ends, signN, q,  h1]
    | false =>
     simp [b1, h1, Ends, signN, q, ]
     rfl
def numR : Option Int → EV
 | some n => .tup [eI n, eB true]
 | none => .tup [eI 0, eB false]
structure NumI (l : List UInt8) (X : Hp) (z : Nat) (fr : Fr) (h : Hp) : Prop where
 ex : ∃ (i : Nat) (n : Int), i ≤ l.length ∧ z = l.length - i ∧ numL 0 l = numL n (l.drop i) ∧ 0 ≤ n ∧ n ≤ 9223372036854775807 ∧ h = X ∧ fr.get 4 = eI n ∧ fr.get 9 = .p (.list (l.map fun b => .int .u8 b.toNat)) ∧ fr.get 10 = eI l.length ∧ fr.get 11 = eI i
theorem number_ok (l : List UInt8) (hd : ∀ c ∈ l, digitB c = true) (h : Hp) (hl : h.lim ≤ h.objs.length) (hs : l.length < 2 ^ 62) : C0 n_lex_number [.p (.str (mkS l))] h = some (numR (numL 0 l), h) := by
 refine call_loc noExt_mono (f := n_lex_number) rfl rfl (by cases numL 0 l <;> simp [numR]) fun h0 e0 el => ?_
 have hb : bytesOf (mkS l) = l.map fun b => PD.int .u8 b.toNat := by simp [bytesOf]
 simp [act, hb]
 refine Run_loop (NumI l h0) (n := l.length) ⟨0, 0, by omega, by omega, rfl, by omega, by omega, rfl, by simp, by simp, by simp, by simp⟩ ?_
 rintro z f1 h1 ⟨i, n, i1, i2, i3, i4, i5, rfl, g4, g9, g10, g11⟩
 by_cases hi : i < l.length
 · have hc := hd l[i] (List.getElem_mem hi)
   simp only [digitB, Bool.and_eq_true, decide_eq_true_eq] at hc
   generalize hcc : l[i] = c at hc
   have w1 : IntKind.u8.wrap ((c.toNat : Int) - 48) = (c.toNat : Int) - 48 := by simp [IntKind.wrap, IntKind.signed, IntKind.bits]; omega
   have w2 : IntKind.i64.wrap ((c.toNat : Int) - 48) = (c.toNat : Int) - 48 := wrap64 (by omega) (by omega)
   have w3 : IntKind.i64.wrap (9223372036854775807 - ((c.toNat : Int) - 48)) = 9223372036854775807 - ((c.toNat : Int) - 48) := wrap64 (by omega) (by omega)
   have w4 : IntKind.i64.wrap ((9223372036854775807 - ((c.toNat : Int) - 48)).tdiv 10) = (9223372036854775807 - ((c.toNat : Int) - 48)) / 10 := by
    rw [Int.tdiv_eq_ediv_of_nonneg (by omega)]
    exact wrap64 (by omega) (by omega)
   have w5 : IntKind.i64.wrap ((i : Int) + 1) = ((i + 1 : Nat) : Int) := by rw [wrap64 (by omega) (by omega)]; simp
   rw [List.drop_eq_getElem_cons hi, hcc, numL] at i3
   simp [g4, g9, g10, g11, hi, hcc, w1, w2, w3, w4]
   by_cases hq : (9223372036854775807 - ((c.toNat : Int) - 48)) / 10 < n
   · rw [if_pos hq] at i3
     simp [hq, Ends, i3, numR]
   · rw [if_neg hq] at i3
     have w6 : IntKind.i64.wrap (n * 10) = n * 10 := wrap64 (by omega) (by omega)
     have w7 : IntKind.i64.wrap (n * 10 + ((c.toNat : Int) - 48)) = n * 10 + ((c.toNat : Int) - 48) := wrap64 (by omega) (by omega)
     simp [hq, g4, g9, g10, g11, w5, w6, w7]
     exact ⟨l.length - (i + 1), by omega, i + 1, _, by omega, rfl, i3, by omega, by omega, rfl, by simp, by simp [g9], by simp [g10], by simp⟩
 · have : l.drop i = [] := List.drop_eq_nil_of_le (by omega)
   rw [this, numL] at i3
   simp [g4, g9, g10, g11, hi, Ends, i3, numR]
theorem digits_run {p : UInt8 → Bool} : ∀ (l : List UInt8), ∀ c ∈ l.take (runN p l), p c = true
 | [], c, h => by simp at h
 | d :: r, c, h => by
  by_cases q : p d = true
  · simp only [runN, q, if_true, List.take_succ_cons, List.mem_cons] at h
    rcases h with rfl | h
    · exact q
    · exact digits_run r c h
  · simp [runN, q] at h
def tokE (l : List UInt8) : Option (Int × Nat × Int) → EV
 | none => .agg [eI 0, eI 0, .p (.str (mkS [])), eI 0]
 | some (k, m, x) => .agg [eI k, eI 0, .p (.str (mkS (l.take m))), eI x]
end Dk.M
