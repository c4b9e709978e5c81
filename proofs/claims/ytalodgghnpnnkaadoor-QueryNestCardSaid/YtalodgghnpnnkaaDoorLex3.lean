/- A text's tokens, handed one by one, at D. -/
import Derived.Test.YtalodgghnpnnkaaDoorLex2
set_option linter.unusedVariables false
set_option linter.unusedSimpArgs false
set_option linter.unusedSectionVars false
namespace Dk.M
open Go Dk
variable [Mx]
omit [Mx] in
theorem tokL_kind {l : List UInt8} {k : Int} {m : Nat} {n : Int} (h : tokL l = some (k, m, n)) : 1 ≤ k ∧ k ≤ 4 := by
 cases l with
 | nil => simp [tokL] at h
 | cons c r =>
  simp only [tokL] at h
  split at h
  · cases h; omega
  · split at h
    · split at h
      · split at h
        · cases h; omega
        · cases h
      · cases h
    · split at h
      · split at h
        · cases h; omega
        · cases h
      · split at h
        · cases h; omega
        · cases h
structure EachI (l : List UInt8) (X : Hp) (b : Nat) (Y : Nat) (I : Nat → List Nat → Hp → Prop) (fp : List Nat) (z : Nat) (f : Fr) (h : Hp) : Prop where
 ex : ∃ (j a : Nat) (fj : List Nat), a ≤ l.length ∧ z = l.length - a ∧ j ≤ (toks 0 l).1.length ∧ (toks 0 l).1.drop j = (toks a (l.drop a)).1 ∧ runN blankB (l.drop a) = 0 ∧ Fwd fp X h ∧ (∀ x ∈ fj, x ∈ fp ∨ X.objs.length ≤ x) ∧ b ∉ fj ∧ I j fj h ∧
  f.get 0 = .yld Y ∧ f.get 1 = .ptr b 0 0 0 ∧ f.get 3 = eI a
theorem runN_drop {p : UInt8 → Bool} : ∀ (l : List UInt8), runN p (l.drop (runN p l)) = 0
 | [] => rfl
 | c :: r => by
  by_cases q : p c = true
  · simp only [runN, q, if_true, List.drop_succ_cons]
    exact runN_drop r
  · simp [runN, q]
theorem each_ok {l : List UInt8} {Y b : Nat} {I : Nat → List Nat → Hp → Prop} {J : List Nat → Hp → Prop} (R : Rounds C0 Y ((toks 0 l).1.map fun t => [.agg t.cells]) I J) {fp : List Nat} {h : Hp} (hI : I 0 fp h)
 (hb : h.arr b 0 = some ⟨0, 1, false, 0, [[.p (.str (mkS l))]]⟩) (hbf : b ∉ fp) (hl : h.lim ≤ h.objs.length) (hs : l.length < 2 ^ 62) :
 WA (C0 n_lex_Each_1 [.yld Y, .ptr b 0 0 0] h) fun _ h' => Handed (toks 0 l).1.length I J fp h h' := by
 refine call_W noExt_mono (f := n_lex_Each_1) rfl rfl ?_
 simp [hb]
 have k0 := skip_ok l 0 (by omega) h hl hs
 refine PutA_eq k0 ?_
 simp
 have hle := runN_le blankB l
 refine Run_loop (EachI l h b Y I fp) (n := l.length - runN blankB l) ⟨0, runN blankB l, fp, by omega, rfl, by omega, ?_, runN_drop l, Fwd.refl _ _, fun x q => .inl q, hbf, hI, by simp, by simp, by simp⟩ ?_
 · rw [List.drop_zero, toks_skip 0 l, Nat.zero_add]
 rintro z f1 h1 ⟨j, a, fj, a1, a2, a3, a4, a5, F1, G1, nb, HI, g0, g1, g3⟩
 have hb1 := F1.arr hb hbf
 have lb1 := arr_lt hb1
 have l1 : h1.lim ≤ h1.objs.length := F1.limlen hl
 have done : (toks a (l.drop a)).1 = [] → j = (toks 0 l).1.length := fun q => by
  rw [q] at a4
  have := congrArg List.length a4
  simp at this
  omega
 by_cases ha : a < l.length
 · obtain ⟨c, r, hc⟩ : ∃ c r, l.drop a = c :: r := ⟨_, _, List.drop_eq_getElem_cons ha⟩
   have hcb : blankB c = false := runN_stop (l := l.drop a) (by rw [a5]; exact hc)
   have lr : r.length < l.length := by
    have := congrArg List.length hc
    simp at this
    omega
   simp [g0, g1, g3, hb1, ha, sls_lo l a1, hc]
   refine PutA_eq (next_ok c r h1 l1 (by simp; omega)) ?_
   cases ht : tokL (c :: r) with
   | none =>
    have hd := toks_none a hcb ht
    rw [← hc] at hd
    have hj := done (by rw [hd])
    simp [tokE, ones, lk l1, g0, g1, g3, Ends]
    rw [Hp.back_of F1.lim]
    have FF : Fwd [] h1 (((h1.new (.cells ⟨0, 4, true, 0, [[eI 0, eI 0, .p (.str (bs [])), eI 0]]⟩)).setArr h1.objs.length ⟨0, 4, true, 0, [[eI 0, eI 0, .p (.str (mkS [])), eI 0]]⟩).setArr h1.objs.length ⟨0, 4, true, 0, [[eI 0, eI a, .p (.str (mkS [])), eI 0]]⟩) :=
     ((((Fwd.refl [] h1).new _).set _ (.inr (Nat.le_refl _))).set _ (.inr (Nat.le_refl _)))
    exact ⟨fj, F1.trans (FF.mono (by simp)), G1, .inl (hj ▸ R.keep j fj [] _ _ HI FF (by simp))⟩
   | some q =>
    obtain ⟨k, m, x⟩ := q
    have hm := tokL_len ht
    have hk := tokL_kind ht
    have hk0 : ¬ k = 0 := by omega
    have hd := toks_some a hcb ht
    rw [← hc] at hd
    simp [tokE, ones, lk l1, g0, g1, g3, hk0, act]
    obtain ⟨X, eX⟩ : ∃ X, X = ((h1.new (.cells ⟨0, 4, true, 0, [[eI 0, eI 0, .p (.str (bs [])), eI 0]]⟩)).setArr h1.objs.length ⟨0, 4, true, 0, [[eI k, eI 0, .p (.str (mkS ((c :: r).take m))), eI x]]⟩).setArr h1.objs.length ⟨0, 4, true, 0, [[eI k, eI a, .p (.str (mkS ((c :: r).take m))), eI x]]⟩ := ⟨_, rfl⟩
    have FX : Fwd [] h1 X := by rw [eX]; exact ((((Fwd.refl [] h1).new _).set _ (.inr (Nat.le_refl _))).set _ (.inr (Nat.le_refl _)))
    have x0 : X.arr h1.objs.length 0 = some ⟨0, 4, true, 0, [[eI k, eI a, .p (.str (mkS ((c :: r).take m))), eI x]]⟩ := by rw [eX]; simp [Hp.arr_set]
    have nX : X.objs.length = h1.objs.length + 1 := by rw [eX]; simp
    rw [← eX]
    clear eX
    have hx : ((toks 0 l).1.map fun t => [EV.agg t.cells])[j]? = some [.agg [eI k, eI a, .p (.str (mkS ((c :: r).take m))), eI x]] := by
     have : (toks 0 l).1[j]? = some ⟨k, a, (c :: r).take m, x⟩ := by
      have := congrArg (fun l : List Tok => l[0]?) a4
      rw [hd] at this
      simpa [hc] using this
     rw [List.getElem?_map, this]
     rfl
    refine PutA_of (R.step j _ fj X hx (R.keep j fj [] _ _ HI FX (by simp))) ?_
    rintro v h2 ⟨fj', f2, g2, hcase⟩
    have fjlt := R.lt j fj h1 HI
    have F2 : Fwd fp h h2 := (F1.trans (FX.mono (by simp))).trans' f2 G1
    have G2 : ∀ y ∈ fj', y ∈ fp ∨ h.objs.length ≤ y := fun y hy => by
     rcases g2 y hy with q | q
     · exact G1 y q
     · have := F1.len; exact .inr (by omega)
    have x2 := f2.arr x0 (fun q => by have := fjlt _ q; omega)
    have hb2 := F2.arr hb hbf
    have lb2 := arr_lt hb2
    have nb2 : b ∉ fj' := fun q => by
     rcases g2 b q with q | q
     · exact nb q
     · omega
    have hjl : j < (toks 0 l).1.length := by
     rw [List.getElem?_map] at hx
     by_cases q : j < (toks 0 l).1.length
     · exact q
     · rw [List.getElem?_eq_none (by omega)] at hx
       cases hx
    rcases hcase with ⟨rfl, I2⟩ | ⟨rfl, J2⟩
    · have lm : (List.take m (c :: r)).length = m := by rw [List.length_take]; omega
      have hcl : (c :: r).length = l.length - a := by rw [← hc]; simp
      have w : IntKind.i64.wrap ((a : Int) + m) = ((a + m : Nat) : Int) := by rw [wrap64 (by omega) (by omega)]; simp
      simp [g0, g1, g3, x2, nl (arr_lt x2), hb2, lm, w]
      have k1 := skip_ok l (a + m) (by omega) h2 (F2.limlen hl) hs
      simp only [Int.natCast_add] at k1
      refine PutA_eq k1 ?_
      simp
      have hle2 := runN_le blankB (l.drop (a + m))
      rw [List.length_drop] at hle2
      refine ⟨l.length - (a + m + runN blankB (l.drop (a + m))), by omega, j + 1, a + m + runN blankB (l.drop (a + m)), fj', by omega, rfl, by omega, ?_, ?_, F2, G2, nb2, I2, by simp [g0], by simp [g1], by simp; omega⟩
      · have := congrArg List.tail a4
        rw [hd] at this
        simp only [List.tail_drop, List.tail_cons, ← hc, List.drop_drop] at this
        rw [this, toks_skip, List.drop_drop]
      · rw [← List.drop_drop]
        exact runN_drop _
    · simp [Ends]
      rw [Hp.back_of F2.lim]
      exact ⟨fj', F2, G2, .inr J2⟩
 · have hj := done (by rw [List.drop_eq_nil_of_le (by omega)]; rfl)
   simp [g0, g1, g3, hb1, ha, Ends]
   rw [Hp.back_of F1.lim]
   exact ⟨fj, F1, G1, .inl (hj ▸ HI)⟩
end Dk.M
