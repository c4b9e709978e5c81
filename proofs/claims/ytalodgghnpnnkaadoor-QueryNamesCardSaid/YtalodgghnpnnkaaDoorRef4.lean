/- The document's lexer: all tokens, names, at D. -/
import Derived.Test.YtalodgghnpnnkaaDoorRef3
import Derived.Test.YtalodgghnpnnkaaDoorName
set_option linter.unusedVariables false
set_option linter.unusedSimpArgs false
set_option linter.unusedSectionVars false
namespace Dk.M
open Go Dk
variable [Mx]
structure REI (l : List UInt8) (X : Hp) (B : Nat) (z : Nat) (f : Fr) (h : Hp) : Prop where
 ex : ∃ (j p : Nat) (v : EV) (fr : List Nat), z = l.length - p ∧ p ≤ l.length ∧ j ≤ p ∧ (toks 0 l).1.drop j = (toks p (l.drop p)).1 ∧ (toks 0 l).2 = (toks p (l.drop p)).2 ∧ Own h 4 true v (((toks 0 l).1.take j).map Tok.cells) fr ∧ (∀ y ∈ fr, B + 1 < y) ∧
  h.arr B 0 = some ⟨0, 2, true, 0, [[.full [], eI 0]]⟩ ∧ h.arr (B + 1) 0 = some ⟨0, 2, true, 0, [[v, eI p]]⟩ ∧ Fwd [B + 1] X h ∧ f.get 0 = .p (.str (mkS l)) ∧ f.get 2 = .ptr B 0 0 0 ∧ f.get 3 = .ptr (B + 1) 0 0 0
theorem reach_ok (l : List UInt8) (h : Hp) (hl : h.lim ≤ h.objs.length) (hs : l.length < 2 ^ 31) :
 WA (C0 n_sibylref02_Each [.p (.str (mkS l))] h) fun r h' => ∃ v fr, r = .agg [v, eI (toks 0 l).2] ∧ Own h' 4 true v ((toks 0 l).1.map Tok.cells) fr ∧ Fwd [] h h' ∧ ∀ y ∈ fr, h.objs.length ≤ y := by
 refine call_W noExt_mono (f := n_sibylref02_Each) rfl rfl ?_
 simp [ones, lk hl]
 obtain ⟨X, eX⟩ : ∃ X, X = ((h.new (.cells ⟨0, 2, true, 0, [[.full [], eI 0]]⟩)).new (.cells ⟨0, 2, true, 0, [[.full [], eI 0]]⟩)).setArr (h.objs.length + 1) ⟨0, 2, true, 0, [[.full [], eI 0]]⟩ := ⟨_, rfl⟩
 have FX : Fwd [] h X := by rw [eX]; exact (((Fwd.refl _ _).new _).new _).set _ (.inr (by omega))
 have nX : X.objs.length = h.objs.length + 2 := by rw [eX]; simp
 have x0 : X.arr h.objs.length 0 = some ⟨0, 2, true, 0, [[.full [], eI 0]]⟩ := by rw [eX]; simp
 have x1 : X.arr (h.objs.length + 1) 0 = some ⟨0, 2, true, 0, [[.full [], eI 0]]⟩ := by rw [eX]; simp
 rw [← eX]
 clear eX
 generalize hB : h.objs.length = B at *
 refine Run_loop (REI l X B) (n := l.length) ⟨0, 0, .full [], [], rfl, by omega, by omega, by simp, by simp, .nil, by simp, x0, x1, Fwd.refl _ _, by simp, by simp, by simp⟩ ?_
 rintro z f h1 ⟨j, p, v, fr, hz, p1, p2, p3, p4, O, hfr, a0, a1, F, g0, g2, g3⟩
 have l1 : h1.lim ≤ h1.objs.length := F.limlen (FX.limlen (by omega))
 have lB : h1.lim ≤ B := by rw [F.lim, FX.lim]; exact hl
 have FT : Fwd [] h h1 := FX.trans' F (fun y hy => .inr (by simp at hy; omega))
 have lt0 := arr_lt a0
 have lt1 := arr_lt a1
 have vo := (View.own O).one
 have vc := (View.own O).cells
 by_cases hp : p < l.length
 · obtain ⟨c, hc⟩ : ∃ c, l[p] = c := ⟨_, rfl⟩
   have hd : l.drop p = c :: l.drop (p + 1) := by rw [List.drop_eq_getElem_cons hp, hc]
   have wp : IntKind.i64.wrap ((p : Int) + 1) = ((p + 1 : Nat) : Int) := by rw [wrap64 (by omega) (by omega)]; omega
   simp [g0, g2, g3, a1, hp, hc]
   refine PutA_eq (rblank_ok c h1 l1) ?_
   simp only [PutV_some]
   cases hb : blankB c with
   | true =>
    simp [g0, g2, g3, a1, wp, lk lB, lt1]
    have FS : Fwd [B + 1] h1 (h1.setArr (B + 1) ⟨0, 2, true, 0, [[v, .p (.int .i64 ((p : Int) + 1))]]⟩) := (Fwd.refl _ _).set _ (.inl (by simp))
    refine ⟨l.length - (p + 1), by omega, j, p + 1, v, fr, rfl, by omega, by omega, ?_, ?_, O.fwd FS (fun y hy q => by simp at q; have := hfr y hy; omega), hfr, FS.arr a0 (by simp), by simp [lt1], F.trans FS, by simp [g0], by simp [g2], by simp [g3]⟩
    · rw [p3, hd, toks_blank p _ hb]
    · rw [p4, hd, toks_blank p _ hb]
   | false =>
    simp [g0, g2, g3, a1]
    refine PutA_eq (rnext_ok l p hp h1 l1 (by omega)) ?_
    cases ht : tokL (l.drop p) with
    | none =>
     have hst : toks p (l.drop p) = ([], p) := by rw [hd] at ht ⊢; exact toks_none p hb ht
     simp [tokA, ones, lk l1, g0, g2, g3, nl lt0, nl lt1, a1, a0, lB, vo, vc, Ends]
     rw [Hp.back_of FT.lim]
     obtain ⟨H, eH⟩ : ∃ H, H = ((h1.new (.cells ⟨0, 4, true, 0, [[eI 0, eI 0, .p (.str (bs [])), eI 0]]⟩)).setArr h1.objs.length ⟨0, 4, true, 0, [[eI 0, eI 0, .p (.str (mkS [])), eI 0]]⟩).setArr B ⟨0, 2, true, 0, [[v, eI p]]⟩ := ⟨_, rfl⟩
     have FH : Fwd [B] h1 H := by rw [eH]; exact (((Fwd.refl _ _).new _).set _ (.inr (Nat.le_refl _))).set _ (.inl (by simp))
     rw [← eH]
     have O2 := O.fwd FH (fun y hy q => by simp at q; have := hfr y hy; omega)
     rw [hst] at p3 p4
     have hj : (toks 0 l).1.take j = (toks 0 l).1 := List.take_of_length_le (by have := congrArg List.length p3; simp at this; omega)
     rw [hj] at O2
     exact ⟨v, ⟨rfl, by rw [p4]⟩, fr, O2, FT.trans' FH (fun y hy => .inr (by simp at hy; omega)), fun y hy => by have := hfr y hy; omega⟩
    | some q =>
     obtain ⟨k, m, x⟩ := q
     have hm := tokL_len ht
     have hk := tokL_kind ht
     have hk0 : ¬ k = 0 := by omega
     simp [tokA, ones, lk l1, g0, g2, g3, nl lt0, nl lt1, a1, a0, lB, vo, vc, hk0]
     obtain ⟨Y, eY⟩ : ∃ Y, Y = ((h1.new (.cells ⟨0, 4, true, 0, [[eI 0, eI 0, .p (.str (bs [])), eI 0]]⟩)).setArr h1.objs.length ⟨0, 4, true, 0, [[eI k, eI p, .p (.str (mkS ((l.drop p).take m))), eI x]]⟩).new (.cells ⟨0, 4, true, 0, [[eI k, eI p, .p (.str (mkS ((l.drop p).take m))), eI x]]⟩) := ⟨_, rfl⟩
     have FY : Fwd [] h1 Y := by rw [eY]; exact (((Fwd.refl _ _).new _).set _ (.inr (Nat.le_refl _))).new _
     have y0 : Y.arr h1.objs.length 0 = some ⟨0, 4, true, 0, [[eI k, eI p, .p (.str (mkS ((l.drop p).take m))), eI x]]⟩ := by rw [eY]; simp
     have y1 : Y.arr (h1.objs.length + 1) 0 = some ⟨0, 4, true, 0, [[eI k, eI p, .p (.str (mkS ((l.drop p).take m))), eI x]]⟩ := by rw [eY]; simp
     have nY : Y.objs.length = h1.objs.length + 2 := by rw [eY]; simp
     rw [← eY]
     clear eY
     have ya := FY.arr a1 (by simp)
     have yb := FY.arr a0 (by simp)
     have O2 := O.fwd FY (by simp)
     have hjl : ((toks 0 l).1.take j).length ≤ p := by simp; omega
     refine PutA_of (O2.append (ys := [[eI k, eI p, .p (.str (mkS ((l.drop p).take m))), eI x]]) (by simp [elsOf, y1]) (by simp at hjl ⊢; omega) (FY.limlen l1)) ?_
     rintro v' h2 ⟨fr', O3, F2, G2⟩
     have nfr : B + 1 ∉ fr := fun q => by have := hfr _ q; omega
     have nfr0 : B ∉ fr := fun q => by have := hfr _ q; omega
     have ltO := O.lt
     have za := F2.arr ya nfr
     have zb := F2.arr yb nfr0
     have z0 := F2.arr y0 (fun q => by have := ltO _ q; omega)
     have lta := arr_lt za
     have lt5 := arr_lt z0
     have lB2 : h2.lim ≤ B := by rw [F2.lim, FY.lim]; exact lB
     have vo' := (View.own O3).one
     have vc' := (View.own O3).cells
     have hfr' : ∀ y ∈ fr', B + 1 < y := fun y hy => by
      rcases G2 y hy with q | q
      · exact hfr y q
      · omega
     obtain ⟨e, he⟩ : ∃ e, e = p + m := ⟨_, rfl⟩
     have lmm : ((l.drop p).take m).length = m := by simp at hm ⊢; omega
     have hme : e ≤ l.length := by simp at hm; omega
     have we : IntKind.i64.wrap ((p : Int) + m) = (e : Int) := by rw [wrap64 (by omega) (by omega)]; omega
     have ne1 : (h1.objs.length = B + 1) = False := eq_false (by omega)
     have lm' : min m (l.length - p) = m := by simp at hm; omega
     simp [g0, g2, g3, za, zb, z0, lta, lk lB2, vo', vc', ne1, lm', we]
     obtain ⟨Z, eZ⟩ : ∃ Z, Z = (h2.setArr (B + 1) ⟨0, 2, true, 0, [[v', eI p]]⟩).setArr (B + 1) ⟨0, 2, true, 0, [[v', .p (.int .i64 (e : Int))]]⟩ := ⟨_, rfl⟩
     have FZ : Fwd [B + 1] h2 Z := by rw [eZ]; exact ((Fwd.refl _ _).set _ (.inl (by simp))).set _ (.inl (by simp))
     have z1 : Z.arr (B + 1) 0 = some ⟨0, 2, true, 0, [[v', eI e]]⟩ := by rw [eZ]; simp [lta]
     rw [← eZ]
     clear eZ
     have hst2 : toks p (l.drop p) = (⟨k, p, (l.drop p).take m, x⟩ :: (toks e (l.drop e)).1, (toks e (l.drop e)).2) := by
      rw [he, ← List.drop_drop, hd]
      rw [hd] at ht
      exact toks_some p hb ht
     rw [hst2] at p3 p4
     have hjt : (toks 0 l).1[j]? = some ⟨k, p, (l.drop p).take m, x⟩ := by
      have := congrArg (fun l : List Tok => l[0]?) p3
      simpa using this
     refine ⟨l.length - e, by omega, j + 1, e, v', fr', rfl, hme, by omega, ?_, p4, ?_, hfr', FZ.arr zb (by simp), z1, ?_, by simp [g0], by simp [g2], by simp [g3]⟩
     · have := congrArg List.tail p3
       simpa [List.tail_drop] using this
     · have O4 := O3.fwd FZ (fun y hy q => by simp at q; have := hfr' y hy; omega)
       rw [List.take_add_one, hjt]
       simpa [Tok.cells] using O4
     · exact (((F.trans (FY.mono (by simp))).trans' F2 (fun y hy => .inr (by have := hfr y hy; omega)))).trans FZ
 · simp [g0, g2, g3, a1, a0, hp, vo, vc, lB, lt0, Ends]
   rw [Hp.back_of FT.lim]
   have FH : Fwd [B] h1 (h1.setArr B ⟨0, 2, true, 0, [[v, eI p]]⟩) := (Fwd.refl _ _).set _ (.inl (by simp))
   have O2 := O.fwd FH (fun y hy q => by simp at q; have := hfr y hy; omega)
   have hd : l.drop p = [] := List.drop_eq_nil_of_le (by omega)
   rw [hd, toks_nil] at p3 p4
   have hj : (toks 0 l).1.take j = (toks 0 l).1 := List.take_of_length_le (by have := congrArg List.length p3; simp at this; omega)
   rw [hj] at O2
   exact ⟨v, ⟨rfl, by rw [p4]⟩, fr, O2, FT.trans' FH (fun y hy => .inr (by simp at hy; omega)), fun y hy => by have := hfr y hy; omega⟩
end Dk.M
