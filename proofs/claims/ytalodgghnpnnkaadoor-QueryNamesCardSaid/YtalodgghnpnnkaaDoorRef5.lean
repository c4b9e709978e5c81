/- The document's lexer and names, at D. -/
import Derived.Test.YtalodgghnpnnkaaDoorRef4
set_option linter.unusedVariables false
set_option linter.unusedSimpArgs false
set_option linter.unusedSectionVars false
namespace Dk.M
open Go Dk
variable [Mx]
theorem rlex_ok (l : List UInt8) (h : Hp) (hl : h.lim ≤ h.objs.length) (hs : l.length < 2 ^ 31) :
 ∃ v, (∃ w, v = .agg [w, eI (lexR l).2.1, eI (lexR l).2.2] ∧ (w = .p (.list ((lexR l).1.map Tok.pd)) ∨ w = .full ((lexR l).1.map Tok.pd))) ∧ C0 n_sibylref02_Lex [.p (.str (mkS l))] h = some (v, h) := by
 refine call_locSX noExt_mono (f := n_sibylref02_Lex) rfl rfl (fun v e => by obtain ⟨w, rfl, rfl | rfl⟩ := e <;> rfl) fun h0 e0 el => ?_
 have hl : h0.lim ≤ h0.objs.length := by omega
 simp
 obtain ⟨X, eX⟩ : ∃ X, X = h0.new (.cells ⟨0, 3, true, 0, [[.full [], eI 0, eI 0]]⟩) := ⟨_, rfl⟩
 have FX : Fwd [] h0 X := by rw [eX]; exact (Fwd.refl _ _).new _
 have x0 : X.arr h0.objs.length 0 = some ⟨0, 3, true, 0, [[.full [], eI 0, eI 0]]⟩ := by rw [eX]; simp
 have nX : X.objs.length = h0.objs.length + 1 := by rw [eX]; simp
 rw [← eX]
 clear eX
 have lX := FX.limlen hl
 refine PutA_of (reach_ok l X lX hs) ?_
 rintro _ h1 ⟨v, fr, rfl, O, F1, hfr⟩
 have l1 := F1.limlen lX
 have lB : h1.lim ≤ h0.objs.length := by rw [F1.lim, FX.lim]; exact hl
 have a0 := F1.arr x0 (by simp)
 have vo := (View.own O).one
 have vc := (View.own O).cells
 simp [ones, vo, lk l1]
 obtain ⟨Y, eY⟩ : ∃ Y, Y = (h1.new (.cells ⟨0, 2, true, 0, [[.full [], eI 0]]⟩)).setArr h1.objs.length ⟨0, 2, true, 0, [[v, eI (toks 0 l).2]]⟩ := ⟨_, rfl⟩
 have FY : Fwd [] h1 Y := by rw [eY]; exact ((Fwd.refl _ _).new _).set _ (.inr (Nat.le_refl _))
 have y1 : Y.arr h1.objs.length 0 = some ⟨0, 2, true, 0, [[v, eI (toks 0 l).2]]⟩ := by rw [eY]; simp
 rw [← eY]
 clear eY
 have y0 := FY.arr a0 (by simp)
 have O2 := O.fwd FY (by simp)
 have lY : Y.lim ≤ h0.objs.length := by rw [FY.lim]; exact lB
 have lt0 := arr_lt y0
 have V := View.own O2
 by_cases h200 : 200 < (toks 0 l).1.length
 · obtain ⟨t, ht⟩ : ∃ t, (toks 0 l).1[200]? = some t := ⟨_, List.getElem?_eq_getElem h200⟩
   have hR : lexR l = ([], t.at_, 12) := by simp [lexR, ht]
   have h2 : ((200 : Int) < (toks 0 l).1.length) = True := eq_true (by omega)
   obtain ⟨q, q', a1, a2, a3⟩ := V.fld (i := 200) (el := t.cells) (by simp [ht]) rfl (j := 1) (e := eI t.at_) rfl rfl
   have a3 := a3 Y (Pfx.refl _)
   simp only [Int.cast_ofNat_Int] at a1
   simp [y1, V.len, h2, a1, a2, a3, y0, lY, lt0, EndsS, hR, shareVs, shareV]
 · have ht : (toks 0 l).1[200]? = none := List.getElem?_eq_none (by omega)
   have h2 : ((200 : Int) < (toks 0 l).1.length) = False := eq_false (by omega)
   by_cases he : (toks 0 l).2 < l.length
   · have hR : lexR l = ([], ((toks 0 l).2 : Int), 10) := by simp [lexR, ht, he]
     simp [y1, V.len, h2, he, y0, lY, lt0, EndsS, hR, shareVs, shareV]
   · have hR : lexR l = ((toks 0 l).1, (l.length : Int), 0) := by simp [lexR, ht, he]
     have O4 := O2.fwd (ids := [h0.objs.length]) (h' := Y.setArr h0.objs.length ⟨0, 3, true, 0, [[v, eI l.length, eI 0]]⟩) ((Fwd.refl _ _).set _ (.inl (by simp))) (fun y hy q => by simp at q; have := hfr y hy; omega)
     simp [y1, V.len, h2, he, y0, lY, lt0, vo, vc]
     generalize hX4 : Y.setArr h0.objs.length ⟨0, 3, true, 0, [[v, eI l.length, eI 0]]⟩ = X4 at O4 ⊢
     obtain ⟨w, os', e2, hw2, -⟩ := share_any (os := X4.objs) (lim := X4.lim) (own_shows (P := fun _ => True) (n := 7) O4 (fun y hy => trivial) (toks_all2 _))
     have c1 : X4.arr h0.objs.length 0 = some ⟨0, 3, true, 0, [[v, eI l.length, eI 0]]⟩ := by rw [← hX4]; simp [lt0]
     simp [EndsS, c1, hR, shareVs, shareV, e2]
     exact hw2
theorem rkeyword_ok (l : List UInt8) (h : Hp) (hl : h.lim ≤ h.objs.length) : C0 n_sibylref03_keyword [.p (.str (mkS l))] h = some (eB (kwB l), h) := by
 refine call_loc noExt_mono (f := n_sibylref03_keyword) rfl rfl rfl fun h0 e0 el => ?_
 have b : ∀ x : List UInt8, binOp .eql .none (.p (.str (mkS l))) (.p (.str (mkS x))) = some (eB (decide (l = x))) := fun x => str_eql l x
 have e1 := b [115, 101, 113]
 have e2 := b [119, 104, 101, 114, 101]
 have e3 := b [97, 110, 100]
 have e4 := b [119, 105, 116, 104, 105, 110]
 have e5 := b [98, 121]
 have e6 := b [107, 101, 121]
 simp only [← show bs [115, 101, 113] = mkS [115, 101, 113] from rfl, ← show bs [119, 104, 101, 114, 101] = mkS [119, 104, 101, 114, 101] from rfl, ← show bs [97, 110, 100] = mkS [97, 110, 100] from rfl, ← show bs [119, 105, 116, 104, 105, 110] = mkS [119, 105, 116, 104, 105, 110] from rfl, ← show bs [98, 121] = mkS [98, 121] from rfl, ← show bs [107, 101, 121] = mkS [107, 101, 121] from rfl] at e1 e2 e3 e4 e5 e6
 have hk : kwB l = (decide (l = [115, 101, 113]) || decide (l = [119, 104, 101, 114, 101]) || decide (l = [97, 110, 100]) || decide (l = [119, 105, 116, 104, 105, 110]) || decide (l = [98, 121]) || decide (l = [107, 101, 121])) := by
  simp [kwB, kwords, Bool.or_assoc]
 rw [hk]
 generalize decide (l = [115, 101, 113]) = c1 at *
 generalize decide (l = [119, 104, 101, 114, 101]) = c2 at *
 generalize decide (l = [97, 110, 100]) = c3 at *
 generalize decide (l = [119, 105, 116, 104, 105, 110]) = c4 at *
 generalize decide (l = [98, 121]) = c5 at *
 generalize decide (l = [107, 101, 121]) = c6 at *
 cases c1 with
 | true => simp [e1, Ends]
 | false => cases c2 with
  | true => simp [e1, e2, Ends]
  | false => cases c3 with
   | true => simp [e1, e2, e3, Ends]
   | false => cases c4 with
    | true => simp [e1, e2, e3, e4, Ends]
    | false => cases c5 with
     | true => simp [e1, e2, e3, e4, e5, Ends]
     | false => simp [e1, e2, e3, e4, e5, e6, Ends]
end Dk.M
