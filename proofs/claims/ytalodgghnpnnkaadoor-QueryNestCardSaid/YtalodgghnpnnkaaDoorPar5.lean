/- The parser: chains, at D. -/
import Derived.Test.YtalodgghnpnnkaaDoorPar4
set_option linter.unusedVariables false
set_option linter.unusedSimpArgs false
set_option linter.unusedSectionVars false
namespace Dk.M
open Go Dk
variable [Mx]
structure ChI (h : Hp) (P : Nat) (p : Prs) (n : Nat) (g : Nat → PR (List Code)) (first : Int) (ss : List (List UInt8)) (f : Nat) (sv : EV) (R : PR (List Code)) (z : Nat) (fr : Fr) (h' : Hp) : Prop where
 ex : ∃ (i : Nat) (l : List Code) (x : EV), p.ts.length + 1 - i ≤ z ∧ l.length ≤ i ∧ R = chainL p g first ss z l i ∧ Par h' P p i n ∧ Fwd [P] h h' ∧ CdA h.objs.length l x h' ∧
  fr.get 0 = .ptr P 0 0 0 ∧ fr.get 1 = .fn (.func f) [.ptr P 0 0 0] [] ∧ fr.get 2 = eI first ∧ fr.get 3 = sv ∧ fr.get 9 = x
theorem chain_ok {P : Nat} {p : Prs} {i n f : Nat} {g : Nat → PR (List Code)} (hg : Few g) {first : Int} (hfirst : 0 ≤ first ∧ first < 1000) {ss : List (List UInt8)} (hss : ss.length < 100) {sv : EV} {h : Hp} (H : Par h P p i n) (hw : h.lim ≤ P) (T : Txs h P sv ss)
 (hf : ∀ h i, Par h P p i n → h.lim ≤ P → WA (C0 (mayNo + f) [.ptr P 0 0 0, pagm] h) (Out h P p n (CdA h.objs.length) (g i))) :
 WA (C0 n_query_parser_chain [.ptr P 0 0 0, .fn (.func f) [.ptr P 0 0 0] [], eI first, sv, pagm] h) (Out h P p n (CdA h.objs.length) (chainF p g first ss i)) := by
 refine call_W noExt_mono (f := n_query_parser_chain) rfl rfl ?_
 have hP := H.lt
 have l0 : h.lim ≤ h.objs.length := by omega
 have hbig := p.big
 simp [pagm, act]
 obtain ⟨X, eX⟩ : ∃ X, X = h.new (.cells ⟨0, 5, true, 0, []⟩) := ⟨_, rfl⟩
 have FX0 : Fwd [] h X := by rw [eX]; exact (Fwd.refl _ _).new _
 have FX : Fwd [P] h X := FX0.mono (by simp)
 rw [← eX]
 clear eX
 have HX := H.fwd FX0 (by simp)
 refine PutA_of (hf X i HX (by rw [FX0.lim]; exact hw)) ?_
 rintro v h1 ⟨F1, hr⟩
 have FT := FX.trans F1
 cases hgi : g i with
 | error e =>
  obtain ⟨a, e⟩ := e
  rw [hgi] at hr
  rw [show v = pErr a e from hr]
  simp [pErr, pv, Ends]
  rw [Hp.back_of FT.lim]
  exact ⟨FT, by simp [chainF, hgi, pErr, pv]⟩
 | ok r =>
  obtain ⟨l, j⟩ := r
  rw [hgi] at hr
  obtain ⟨x, rfl, H1, A⟩ := hr
  have hfew := hg _ _ _ hgi
  simp
  refine Run_loop (ChI h P p n g first ss f sv (chainF p g first ss i)) (n := p.ts.length + 1 - j) ⟨j, l, x, Nat.le_refl _, by omega, by simp [chainF, hgi], H1, FT, A.mono FX.len, by simp, by simp, by simp, by simp, by simp⟩ ?_
  rintro z fr h2 ⟨k, m, y, z1, z2, z3, H2, F2, A2, g0, g1, g2, g3, g9⟩
  have hk := H2.le
  have hw2 : h2.lim ≤ P := by rw [F2.lim]; exact hw
  obtain ⟨z', rfl⟩ : ∃ z', z = z' + 1 := ⟨z - 1, by omega⟩
  simp [g0, g1, g2, g3, g9, act]
  refine PutA_of (pick_ok H2 hw2 (T.fwd F2) hss) ?_
  rintro v h3 ⟨F3, x3, rfl, H3, rfl⟩
  have F23 := F2.trans F3
  have hw3 : h3.lim ≤ P := by rw [F23.lim]; exact hw
  rw [chainL] at z3
  obtain ⟨fr', O, hfr⟩ := A2
  have hPB : ∀ y ∈ fr', y ∉ [P] := fun y hy e => by simp at e; have := hfr y hy; omega
  rcases pickF_at p k ss 0 with ⟨q, qi⟩ | ⟨c, q, -, qc, q2, q3⟩
  · rw [if_pos (by rw [q]; omega)] at z3
    simp [q, g9, Ends]
    rw [Hp.back_of F23.lim, z3]
    rw [qi] at H3
    exact ⟨F23, y, rfl, H3, fr', O.fwd F3 hPB, hfr⟩
  · rw [if_neg (by rw [q]; omega)] at z3
    have hq0 : ((c : Int) < 0) = False := eq_false (by omega)
    simp [q, hq0, g0, g1, g2, g3, g9, act]
    refine PutA_of (hf h3 _ H3 hw3) ?_
    rintro v h4 ⟨F4, hr4⟩
    have F24 := F23.trans F4
    cases hg4 : g (pickF p k 0 ss).2 with
    | error e =>
     obtain ⟨a, e⟩ := e
     rw [hg4] at hr4 z3
     rw [show v = pErr a e from hr4]
     simp [pErr, pv, Ends]
     rw [Hp.back_of F24.lim, z3]
     exact ⟨F24, by simp [pErr, pv]⟩
    | ok r4 =>
     obtain ⟨m4, j4⟩ := r4
     rw [hg4] at hr4 z3
     obtain ⟨x4, rfl, H4, fr4, O4, hfr4⟩ := hr4
     have hfew4 := hg _ _ _ hg4
     rw [q2] at hfew4
     have hj4 := H4.le
     have hw4 : h4.lim ≤ P := by rw [F24.lim]; exact hw
     have hP4 := H4.lt
     have O2 := (O.fwd F3 hPB).fwd F4 hPB
     have wc : IntKind.i64.wrap (first + (c : Int)) = first + (c : Int) := wrap64 (by omega) (by omega)
     simp
     refine PutA_of (O2.append (ys := m4.map Code.cells) O4.els (by simp; omega) (by omega)) ?_
     rintro y5 h5 ⟨fr5, O5, F5, G5⟩
     have hfr5 : ∀ y ∈ fr5, h.objs.length ≤ y := fun y hy => by
      rcases G5 y hy with e | e
      · exact hfr y e
      · have := F24.len; omega
     have F5' : Fwd [P] h h5 := F24.trans' F5 (fun y hy => .inr (hfr y hy))
     have l5 : h5.lim ≤ h5.objs.length := F5'.limlen l0
     simp [g2, wc, ones, lk l5]
     obtain ⟨Y, eY⟩ : ∃ Y, Y = h5.new (.cells ⟨0, 5, true, 0, [[.p (.int .i64 (first + c)), eI 0, .p (.str (bs [])), eI 0, eI 0]]⟩) := ⟨_, rfl⟩
     have FY : Fwd [] h5 Y := by rw [eY]; exact (Fwd.refl _ _).new _
     have y1 : Y.arr h5.objs.length 0 = some ⟨0, 5, true, 0, [[.p (.int .i64 (first + c)), eI 0, .p (.str (bs [])), eI 0, eI 0]]⟩ := by rw [eY]; simp
     rw [← eY]
     clear eY
     have O6 := O5.fwd FY (by simp)
     refine PutA_of (O6.append (ys := [[.p (.int .i64 (first + c)), eI 0, .p (.str (bs [])), eI 0, eI 0]]) (by simp [elsOf, y1]) (by simp; omega) (FY.limlen l5)) ?_
     rintro y7 h7 ⟨fr7, O7, F7, G7⟩
     have hfr7 : ∀ y ∈ fr7, h.objs.length ≤ y := fun y hy => by
      rcases G7 y hy with e | e
      · exact hfr5 y e
      · have := F5'.len; have := FY.len; omega
     have F7' : Fwd [P] h h7 := (F5'.trans (FY.mono (by simp))).trans' F7 (fun y hy => .inr (hfr5 y hy))
     have H7 : Par h7 P p j4 n := by
      refine ⟨F7.arr (FY.arr (F5.arr H4.ar (fun e => ?_)) (by simp)) (fun e => ?_), H4.le, H4.deep⟩
      · have := hfr _ e; omega
      · have := hfr5 _ e; omega
     simp
     refine ⟨z', by omega, j4, m ++ m4 ++ [⟨first + (pickF p k 0 ss).1, 0, mkS [], 0, 0⟩], y7, by omega, by simp; omega, z3, H7, F7', ⟨fr7, ?_, hfr7⟩, by simp [g0], by simp [g1], by simp [g2], by simp [g3], by simp⟩
     have e7 : [EV.p (.int .i64 (first + c)), eI 0, .p (.str (bs [])), eI 0, eI 0] = (Code.mk (first + (pickF p k 0 ss).1) 0 (mkS []) 0 0).cells := by rw [q]; rfl
     rw [e7] at O7
     simpa using O7
end Dk.M
