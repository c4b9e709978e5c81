/- check.Check: its four rules, one behind the other. -/
import Derived.Test.YtnhghaianccncaaDoorPrt
set_option linter.unusedVariables false
set_option linter.unusedSimpArgs false
set_option linter.unusedSectionVars false
namespace Dk.L
open Go Dk
variable [Mx]
def CloOK (h : Hp) (cs : List EV) (f : Nat) (b : Bool) : Prop := ∀ h1, Pfx h h1 → h.objs.length < h1.objs.length → h1.arr h.objs.length 0 = some ⟨0, 4, true, 0, [cs]⟩ → C0 f [.ptr h.objs.length 0 0 0] h1 = some (eB b, h1)
def errOf : List (Bool × Int) → Int
 | [] => 0
 | (b, e) :: r => if b = true then errOf r else e
structure ChI (X : Hp) (B : Nat) (b1 b2 b3 b4 : Bool) (z : Nat) (f : Fr) (h' : Hp) : Prop where
 ex : ∃ i : Nat, i ≤ 4 ∧ z = 4 - i ∧ Fwd [] X h' ∧ f.get 3 = eI 0 ∧ f.get 14 = .arr (B + 1) 0 2 0 4 true ∧ f.get 15 = eI 4 ∧ f.get 16 = eI i ∧ (1 ≤ i → b1 = true) ∧ (2 ≤ i → b2 = true) ∧ (3 ≤ i → b3 = true) ∧ (4 ≤ i → b4 = true)
theorem check_ok {h : Hp} {cs : List EV} (h4 : cs.length = 4) (h1 : ones cs = true) (hl : h.lim ≤ h.objs.length) {b1 b2 b3 b4 : Bool}
 (H1 : CloOK h cs n_check_Check_1 b1) (H2 : b1 = true → CloOK h cs n_check_Check_2 b2) (H3 : b1 = true → b2 = true → CloOK h cs n_check_Check_3 b3) (H4 : b1 = true → b2 = true → b3 = true → CloOK h cs n_check_Check_4 b4) :
 C0 n_check_Check [.agg cs] h = some (eI (errOf [(b1, 1), (b2, 12), (b3, 13), (b4, 14)]), h) := by
 refine call_loc noExt_mono (f := n_check_Check) rfl rfl rfl fun h0 e0 el => ?_
 have hB : h.objs.length = h0.objs.length := by rw [e0]
 have hl : h0.lim ≤ h0.objs.length := by omega
 have P0 : Pfx h h0 := .of e0
 simp [h4, h1]
 obtain ⟨X, eX⟩ : ∃ X, X = (h0.new (.cells ⟨0, 4, true, 0, [cs]⟩)).new (.cells ⟨0, 2, true, 0, [[.fn (.func n_check_Check_1) [] [.ptr h0.objs.length 0 0 0], eI 1], [.fn (.func n_check_Check_2) [] [.ptr h0.objs.length 0 0 0], eI 12], [.fn (.func n_check_Check_3) [] [.ptr h0.objs.length 0 0 0], eI 13], [.fn (.func n_check_Check_4) [] [.ptr h0.objs.length 0 0 0], eI 14]]⟩) := ⟨_, rfl⟩
 have FX : Fwd [] h0 X := by rw [eX]; exact ((Fwd.refl _ _).new _).new _
 have nX : X.objs.length = h0.objs.length + 2 := by rw [eX]; simp
 have x0 : X.arr h0.objs.length 0 = some ⟨0, 4, true, 0, [cs]⟩ := by rw [eX]; simp
 have x1 : X.arr (h0.objs.length + 1) 0 = some ⟨0, 2, true, 0, [[.fn (.func n_check_Check_1) [] [.ptr h0.objs.length 0 0 0], eI 1], [.fn (.func n_check_Check_2) [] [.ptr h0.objs.length 0 0 0], eI 12], [.fn (.func n_check_Check_3) [] [.ptr h0.objs.length 0 0 0], eI 13], [.fn (.func n_check_Check_4) [] [.ptr h0.objs.length 0 0 0], eI 14]]⟩ := by rw [eX]; simp
 rw [← eX]
 clear eX
 refine Run_loop (ChI X h0.objs.length b1 b2 b3 b4) (n := 4) ⟨0, by omega, rfl, Fwd.refl _ _, by simp, by simp, by simp, by simp, by omega, by omega, by omega, by omega⟩ ?_
 rintro z f1 h2 ⟨i, hi, hz, F2, g3, g14, g15, g16, i1, i2, i3, i4⟩
 have y0 := F2.arr x0 (by simp)
 have y1 := F2.arr x1 (by simp)
 have l2 := F2.len
 have lm2 : h2.lim ≤ h2.objs.length := by have := F2.lim; have := FX.lim; omega
 have hi5 : i = 0 ∨ i = 1 ∨ i = 2 ∨ i = 3 ∨ i = 4 := by omega
 rcases hi5 with rfl | rfl | rfl | rfl | rfl
 · simp [g3, g14, g15, g16, y1, nl (arr_lt y1), idx, ones, lm2]
   obtain ⟨Y, eY⟩ : ∃ Y, Y = (h2.new (.cells ⟨0, 2, true, 0, [[.nilf, eI 0]]⟩)).setArr h2.objs.length ⟨0, 2, true, 0, [[.fn (.func n_check_Check_1) [] [.ptr h0.objs.length 0 0 0], eI 1]]⟩ := ⟨_, rfl⟩
   have FY : Fwd [] h2 Y := by rw [eY]; exact ((Fwd.refl _ _).new _).set _ (.inr (by simp))
   have nY : Y.objs.length = h2.objs.length + 1 := by rw [eY]; simp
   have z0 : Y.arr h2.objs.length 0 = some ⟨0, 2, true, 0, [[.fn (.func n_check_Check_1) [] [.ptr h0.objs.length 0 0 0], eI 1]]⟩ := by rw [eY]; simp [Hp.arr_set]
   rw [← eY]
   clear eY
   have hc := (H1) Y (P0.trans (pfx ((FX.trans F2).trans FY))) (by omega) (by rw [hB]; exact FY.arr y0 (by simp))
   rw [hB] at hc
   refine PutA_eq hc ?_
   have z3 := z0
   cases hb : b1 with
   | false =>
    simp [z3, nl (arr_lt z3), Ends]
    simp [errOf, hb]
   | true =>
    have w1 : IntKind.i64.wrap 1 = 1 := by decide
    simp [g16, w1]
    exact ⟨3, by omega, 1, by omega, rfl, F2.trans FY, by simp [g3], by simp [g14], by simp [g15], by simp, fun _ => rfl, by omega, by omega, by omega⟩
 · simp [g3, g14, g15, g16, y1, nl (arr_lt y1), idx, ones, lm2]
   obtain ⟨Y, eY⟩ : ∃ Y, Y = (h2.new (.cells ⟨0, 2, true, 0, [[.nilf, eI 0]]⟩)).setArr h2.objs.length ⟨0, 2, true, 0, [[.fn (.func n_check_Check_2) [] [.ptr h0.objs.length 0 0 0], eI 12]]⟩ := ⟨_, rfl⟩
   have FY : Fwd [] h2 Y := by rw [eY]; exact ((Fwd.refl _ _).new _).set _ (.inr (by simp))
   have nY : Y.objs.length = h2.objs.length + 1 := by rw [eY]; simp
   have z0 : Y.arr h2.objs.length 0 = some ⟨0, 2, true, 0, [[.fn (.func n_check_Check_2) [] [.ptr h0.objs.length 0 0 0], eI 12]]⟩ := by rw [eY]; simp [Hp.arr_set]
   rw [← eY]
   clear eY
   have hc := (H2 (i1 (by omega))) Y (P0.trans (pfx ((FX.trans F2).trans FY))) (by omega) (by rw [hB]; exact FY.arr y0 (by simp))
   rw [hB] at hc
   refine PutA_eq hc ?_
   have z3 := z0
   cases hb : b2 with
   | false =>
    simp [z3, nl (arr_lt z3), Ends]
    simp [errOf, i1 (by omega), hb]
   | true =>
    have w1 : IntKind.i64.wrap 2 = 2 := by decide
    simp [g16, w1]
    exact ⟨2, by omega, 2, by omega, rfl, F2.trans FY, by simp [g3], by simp [g14], by simp [g15], by simp, fun _ => i1 (by omega), fun _ => rfl, by omega, by omega⟩
 · simp [g3, g14, g15, g16, y1, nl (arr_lt y1), idx, ones, lm2]
   obtain ⟨Y, eY⟩ : ∃ Y, Y = (h2.new (.cells ⟨0, 2, true, 0, [[.nilf, eI 0]]⟩)).setArr h2.objs.length ⟨0, 2, true, 0, [[.fn (.func n_check_Check_3) [] [.ptr h0.objs.length 0 0 0], eI 13]]⟩ := ⟨_, rfl⟩
   have FY : Fwd [] h2 Y := by rw [eY]; exact ((Fwd.refl _ _).new _).set _ (.inr (by simp))
   have nY : Y.objs.length = h2.objs.length + 1 := by rw [eY]; simp
   have z0 : Y.arr h2.objs.length 0 = some ⟨0, 2, true, 0, [[.fn (.func n_check_Check_3) [] [.ptr h0.objs.length 0 0 0], eI 13]]⟩ := by rw [eY]; simp [Hp.arr_set]
   rw [← eY]
   clear eY
   have hc := (H3 (i1 (by omega)) (i2 (by omega))) Y (P0.trans (pfx ((FX.trans F2).trans FY))) (by omega) (by rw [hB]; exact FY.arr y0 (by simp))
   rw [hB] at hc
   refine PutA_eq hc ?_
   have z3 := z0
   cases hb : b3 with
   | false =>
    simp [z3, nl (arr_lt z3), Ends]
    simp [errOf, i1 (by omega), i2 (by omega), hb]
   | true =>
    have w1 : IntKind.i64.wrap 3 = 3 := by decide
    simp [g16, w1]
    exact ⟨1, by omega, 3, by omega, rfl, F2.trans FY, by simp [g3], by simp [g14], by simp [g15], by simp, fun _ => i1 (by omega), fun _ => i2 (by omega), fun _ => rfl, by omega⟩
 · simp [g3, g14, g15, g16, y1, nl (arr_lt y1), idx, ones, lm2]
   obtain ⟨Y, eY⟩ : ∃ Y, Y = (h2.new (.cells ⟨0, 2, true, 0, [[.nilf, eI 0]]⟩)).setArr h2.objs.length ⟨0, 2, true, 0, [[.fn (.func n_check_Check_4) [] [.ptr h0.objs.length 0 0 0], eI 14]]⟩ := ⟨_, rfl⟩
   have FY : Fwd [] h2 Y := by rw [eY]; exact ((Fwd.refl _ _).new _).set _ (.inr (by simp))
   have nY : Y.objs.length = h2.objs.length + 1 := by rw [eY]; simp
   have z0 : Y.arr h2.objs.length 0 = some ⟨0, 2, true, 0, [[.fn (.func n_check_Check_4) [] [.ptr h0.objs.length 0 0 0], eI 14]]⟩ := by rw [eY]; simp [Hp.arr_set]
   rw [← eY]
   clear eY
   have hc := (H4 (i1 (by omega)) (i2 (by omega)) (i3 (by omega))) Y (P0.trans (pfx ((FX.trans F2).trans FY))) (by omega) (by rw [hB]; exact FY.arr y0 (by simp))
   rw [hB] at hc
   refine PutA_eq hc ?_
   have z3 := z0
   cases hb : b4 with
   | false =>
    simp [z3, nl (arr_lt z3), Ends]
    simp [errOf, i1 (by omega), i2 (by omega), i3 (by omega), hb]
   | true =>
    have w1 : IntKind.i64.wrap 4 = 4 := by decide
    simp [g16, w1]
    exact ⟨0, by omega, 4, by omega, rfl, F2.trans FY, by simp [g3], by simp [g14], by simp [g15], by simp, fun _ => i1 (by omega), fun _ => i2 (by omega), fun _ => i3 (by omega), fun _ => rfl⟩
 · simp [g3, g14, g15, g16, Ends]
   simp [errOf, i1 (by omega), i2 (by omega), i3 (by omega), i4 (by omega)]
end Dk.L
