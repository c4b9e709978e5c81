/- The parser: one of a product, at D. -/
import Derived.Test.YtalodgghnpnnkaaDoorPar6
set_option linter.unusedVariables false
set_option linter.unusedSimpArgs false
set_option linter.unusedSectionVars false
namespace Dk.M
open Go Dk
variable [Mx]
omit [Mx] in
theorem kindF_ok {p : Prs} {i : Nat} {k : Int} {t : Tok} {j : Nat} (h : kindF p i k = .ok (t, j)) : j = i + 1 ∧ t = p.tok i := by
 unfold kindF at h
 split at h
 · simp only [Except.ok.injEq, Prod.mk.injEq] at h
   exact ⟨h.2.symm, h.1.symm⟩
 · cases h
omit [Mx] in
theorem withinF_few {p : Prs} {n : Nat} {u : Nat → PR (List Code)} (hu : Few u) {i : Nat} {l : List Code} {j : Nat} (h : withinF p n u i = .ok (l, j)) : l.length + (i + 1) ≤ j := by
 unfold withinF at h
 split at h
 · cases h
 · exact hu _ _ _ h
omit [Mx] in
theorem unaryS_few {p : Prs} {n : Nat} {u : Nat → PR (List Code)} (hu : Few u) : Few (unaryS p n u) := by
 intro i l j h
 unfold unaryS at h
 split at h
 · cases hw : withinF p n u i with
   | error e => rw [hw] at h; cases h
   | ok q =>
    obtain ⟨l1, j1⟩ := q
    rw [hw] at h
    simp only [negR, Except.ok.injEq, Prod.mk.injEq] at h
    obtain ⟨rfl, rfl⟩ := h
    have := withinF_few hu hw
    simp
    omega
 · split at h
   · cases hw : withinF p n (chainF p (chainF p u 3 muls) 1 adds) i with
     | error e => rw [hw] at h; cases h
     | ok q =>
      obtain ⟨l1, j1⟩ := q
      rw [hw] at h
      simp only [parR] at h
      split at h
      · simp only [Except.ok.injEq, Prod.mk.injEq] at h
        obtain ⟨rfl, rfl⟩ := h
        have := withinF_few (chainF_few (chainF_few hu)) hw
        omega
      · cases h
   · split at h
     · cases hk : kindF p (i + 1) 1 with
       | error e => rw [hk] at h; cases h
       | ok q =>
        obtain ⟨t, j1⟩ := q
        rw [hk] at h
        simp only [cntR, Except.ok.injEq, Prod.mk.injEq] at h
        obtain ⟨rfl, rfl⟩ := h
        have := kindF_ok hk
        simp
        omega
     · split at h
       · cases hk : kindF p i 3 with
         | error e => rw [hk] at h; cases h
         | ok q =>
          obtain ⟨t, j1⟩ := q
          rw [hk] at h
          simp only [intR, Except.ok.injEq, Prod.mk.injEq] at h
          obtain ⟨rfl, rfl⟩ := h
          have := kindF_ok hk
          simp
          omega
       · cases hk : kindF p i 1 with
         | error e => rw [hk] at h; cases h
         | ok q =>
          obtain ⟨t, j1⟩ := q
          rw [hk] at h
          simp only [fldR] at h
          split at h
          · split at h
            · rename_i hp
              simp only [Except.ok.injEq, Prod.mk.injEq] at h
              obtain ⟨rfl, rfl⟩ := h
              have := kindF_ok hk
              rcases pickF_at p (j1 + 1) xyzw 0 with ⟨q, -⟩ | ⟨m, -, -, -, q, -⟩
              · rw [q] at hp; omega
              · rw [q]; simp; omega
            · cases h
          · cases h
omit [Mx] in
theorem unaryF_few (p : Prs) : ∀ d, Few (unaryF p d)
 | 0 => unaryS_few (fun i l j h => by cases h)
 | d + 1 => unaryS_few (unaryF_few p d)
omit [Mx] in
theorem lit_out {h h2 : Hp} {P j n : Nat} {p : Prs} (c : Code) (F : Fwd [P] h h2) (hl : h.lim ≤ h.objs.length) (H : Par h2 P p j n) :
 Out h P p n (CdA h.objs.length) (.ok ([c], j)) (.tup [eB false, .arr h2.objs.length 0 5 0 1 true]) (h2.new (.cells ⟨0, 5, true, 0, [c.cells]⟩)) := by
 have FZ : Fwd [] h2 (h2.new (.cells ⟨0, 5, true, 0, [c.cells]⟩)) := (Fwd.refl _ _).new _
 refine ⟨F.trans (FZ.mono (by simp)), _, rfl, H.fwd FZ (by simp), [h2.objs.length], ?_, fun y hy => by simp at hy; have := F.len; omega⟩
 have := Own.arr (h := h2.new (.cells ⟨0, 5, true, 0, [c.cells]⟩)) (id := h2.objs.length) (g := 0) (sz := 5) (ag := true) (off := 0) (len := 1) (frz := 0) (f := true) (E := [c.cells]) (by simp) (by simp) (by simp) (by have := F.limlen hl; simpa using this)
 simpa using this
theorem unaryS_ok {P : Nat} {p : Prs} {n : Nat} {u : Nat → PR (List Code)} (hu : Few u) (hf : n < 16 → Part n_query_parser_unary P p (n + 1) u) : Part n_query_parser_unary P p n (unaryS p n u) := by
 intro h i H hw
 refine call_W noExt_mono (f := n_query_parser_unary) rfl rfl ?_
 have hP := H.lt
 have l0 : h.lim ≤ h.objs.length := by omega
 have hbig := p.big
 simp [pagm]
 obtain ⟨X, eX⟩ : ∃ X, X = h.new (.cells ⟨0, 5, true, 0, []⟩) := ⟨_, rfl⟩
 have FX0 : Fwd [] h X := by rw [eX]; exact (Fwd.refl _ _).new _
 rw [← eX]
 clear eX
 have HX := H.fwd FX0 (by simp)
 have lX := FX0.limlen l0
 refine PutA_eq (now_ok HX) ?_
 simp [Tok.cells, ones, lk lX]
 obtain ⟨Y, eY⟩ : ∃ Y, Y = (X.new (.cells ⟨0, 4, true, 0, [[eI 0, eI 0, .p (.str (bs [])), eI 0]]⟩)).setArr X.objs.length ⟨0, 4, true, 0, [(p.tok i).cells]⟩ := ⟨_, rfl⟩
 have e1 : (X.new (.cells ⟨0, 4, true, 0, [[eI 0, eI 0, .p (.str (bs [])), eI 0]]⟩)).setArr X.objs.length ⟨0, 4, true, 0, [[eI (p.tok i).kind, eI (p.tok i).at_, .p (.str (mkS (p.tok i).text)), eI (p.tok i).n]]⟩ = Y := by rw [eY]; rfl
 have FY : Fwd [] X Y := by rw [eY]; exact ((Fwd.refl _ _).new _).set _ (.inr (Nat.le_refl _))
 have y1 : Y.arr X.objs.length 0 = some ⟨0, 4, true, 0, [(p.tok i).cells]⟩ := by rw [eY]; simp
 rw [e1]
 clear e1 eY
 have HY := HX.fwd FY (by simp)
 have lY := FY.limlen lX
 have FhY : Fwd [] h Y := FX0.trans FY
 have F0 : Fwd [P] h Y := FhY.mono (by simp)
 have lYP : Y.lim ≤ P := by rw [FhY.lim]; exact hw
 refine PutA_eq (is_ok HY [45]) ?_
 simp only [PutV_some]
 cases hm : p.is i [45] with
 | true =>
  have hi : i < p.ts.length := by
   simp only [Prs.is, Bool.and_eq_true, decide_eq_true_eq] at hm
   exact hm.1
  simp [act]
  refine PutA_of (within_ok HY lYP hi (fun hn h i H hw => hf hn h i H hw)) ?_
  rintro v h1 O1
  have O := Out.cd F0 O1
  have lT := O.1.lim
  have hun : unaryS p n u i = negR (withinF p n u i) := by simp [unaryS, hm]
  rw [hun]
  cases hr : withinF p n u i with
  | error e =>
   rw [hr] at O
   obtain ⟨a, e⟩ := e
   obtain rfl : v = pErr a e := O.2
   simp [pErr, pv, Ends]
   rw [Hp.back_of lT]
   exact O
  | ok q =>
   obtain ⟨l, j⟩ := q
   have hfew := withinF_few hu hr
   rw [hr] at O
   obtain ⟨F1, x, rfl, H1, fr, O1, hfr⟩ := O
   have hj := H1.le
   have l1 := F1.limlen l0
   simp [ones, lk l1]
   obtain ⟨Z, eZ⟩ : ∃ Z, Z = h1.new (.cells ⟨0, 5, true, 0, [[.p (.int .i64 9), eI 0, .p (.str (bs [])), eI 0, eI 0]]⟩) := ⟨_, rfl⟩
   have FZ : Fwd [] h1 Z := by rw [eZ]; exact (Fwd.refl _ _).new _
   have z1 : Z.arr h1.objs.length 0 = some ⟨0, 5, true, 0, [[.p (.int .i64 9), eI 0, .p (.str (bs [])), eI 0, eI 0]]⟩ := by rw [eZ]; simp
   rw [← eZ]
   clear eZ
   have O2 := O1.fwd FZ (by simp)
   refine PutA_of (O2.append (ys := [[.p (.int .i64 9), eI 0, .p (.str (bs [])), eI 0, eI 0]]) (by simp [elsOf, z1]) (by simp; omega) (FZ.limlen l1)) ?_
   rintro y h2 ⟨fr2, O3, F2, G2⟩
   have hfr2 : ∀ y ∈ fr2, h.objs.length ≤ y := fun y hy => by
    rcases G2 y hy with e | e
    · exact hfr y e
    · have := F1.len; have := FZ.len; omega
   have FT : Fwd [P] h h2 := (F1.trans (FZ.mono (by simp))).trans' F2 (fun y hy => .inr (hfr y hy))
   simp [Ends]
   rw [Hp.back_of FT.lim]
   refine ⟨FT, y, rfl, ⟨F2.arr (FZ.arr H1.ar (by simp)) (fun e => by have := hfr _ e; omega), H1.le, H1.deep⟩, fr2, ?_, hfr2⟩
   have e9 : [EV.p (.int .i64 9), eI 0, .p (.str (bs [])), eI 0, eI 0] = (Code.mk 9 0 (mkS []) 0 0).cells := rfl
   rw [e9] at O3
   simpa using O3
 | false =>
  simp
  refine PutA_eq (is_ok HY [40]) ?_
  simp only [PutV_some]
  cases hq : p.is i [40] with
  | true =>
   have hi : i < p.ts.length := by
    simp only [Prs.is, Bool.and_eq_true, decide_eq_true_eq] at hq
    exact hq.1
   simp [act]
   refine PutA_of (within_ok HY lYP hi (fun hn => sum_ok (chainF_few hu) (product_ok hu (hf hn)))) ?_
   rintro v h1 O1
   have O := Out.cd F0 O1
   have lT := O.1.lim
   have hun : unaryS p n u i = parR p (withinF p n (chainF p (chainF p u 3 muls) 1 adds) i) := by simp [unaryS, hm, hq]
   rw [hun]
   cases hr : withinF p n (chainF p (chainF p u 3 muls) 1 adds) i with
   | error e =>
    rw [hr] at O
    obtain ⟨a, e⟩ := e
    obtain rfl : v = pErr a e := O.2
    simp [pErr, pv, Ends]
    rw [Hp.back_of lT]
    exact O
   | ok q =>
    obtain ⟨l, j⟩ := q
    rw [hr] at O
    obtain ⟨F1, x, rfl, H1, fr, O1, hfr⟩ := O
    have hw1 : h1.lim ≤ P := by rw [lT]; exact hw
    simp
    refine PutA_of (may_ok H1 hw1 [41]) ?_
    rintro _ h2 ⟨rfl, H2, F2⟩
    have F12 := F1.trans F2
    have O2 := O1.fwd F2 (fun y hy e => by simp at e; have := hfr y hy; omega)
    simp [act]
    refine PutA_of (must_ok H2 (p.is j [41])) ?_
    rintro _ h3 ⟨rfl, e3⟩
    rw [e3]
    cases hb : p.is j [41] with
    | true =>
     rw [hb] at H2
     simp [Ends]
     rw [Hp.back_of F12.lim]
     refine ⟨F12, ?_⟩
     rw [show parR p (.ok (l, j)) = .ok (l, j + 1) from by simp [parR, hb]]
     exact ⟨x, rfl, H2, fr, O2, hfr⟩
    | false =>
     simp [pErr, pv, Ends, stepN]
     rw [Hp.back_of F12.lim]
     refine ⟨F12, ?_⟩
     rw [show parR p (.ok (l, j)) = .error (p.at j, 11) from by simp [parR, hb]]
     rfl
  | false =>
   cases hc : p.is i [35] with
   | true =>
    simp
    refine PutA_of (may_ok HY lYP [35]) ?_
    rintro _ h1 ⟨rfl, H1, F1⟩
    rw [hc] at H1
    have F01 := F0.trans F1
    have hw1 : h1.lim ≤ P := by rw [F01.lim]; exact hw
    simp [hc, act]
    refine PutA_of (kind_ok H1 hw1 1) ?_
    rintro v h2 O
    have F12 := F01.trans O.1
    have hun : unaryS p n u i = cntR (kindF p (i + 1) 1) := by simp [unaryS, hm, hq, hc]
    rw [hun]
    have hs1 : stepN true i = i + 1 := rfl
    rw [hs1] at O
    cases hr : kindF p (i + 1) 1 with
    | error e =>
     rw [hr] at O
     obtain ⟨a, e⟩ := e
     obtain rfl : v = pErr a e := O.2
     simp [pErr, pv, Ends]
     rw [Hp.back_of F12.lim]
     exact ⟨F12, rfl⟩
    | ok q =>
     obtain ⟨t, j⟩ := q
     rw [hr] at O
     obtain ⟨F2, x, rfl, H2, rfl⟩ := O
     have l2 := F12.limlen l0
     simp [Tok.cells, fgetAt, ones, lk l2, Ends]
     rw [Hp.back_of F12.lim]
     exact lit_out ⟨8, 0, mkS t.text, 0, 0⟩ F12 l0 H2
   | false =>
    simp
    refine PutA_of (may_no HY [35] hc) ?_
    rintro _ h1 ⟨rfl, e1⟩
    rw [e1]
    simp [y1, Tok.cells]
    by_cases h3 : (p.tok i).kind = 3
    · simp [h3, act]
      refine PutA_of (kind_ok HY lYP 3) ?_
      rintro v h2 O
      have F12 := F0.trans O.1
      have hun : unaryS p n u i = intR (kindF p i 3) := by simp [unaryS, hm, hq, hc, h3]
      rw [hun]
      cases hr : kindF p i 3 with
      | error e =>
       rw [hr] at O
       obtain ⟨a, e⟩ := e
       obtain rfl : v = pErr a e := O.2
       simp [pErr, pv, Ends]
       rw [Hp.back_of F12.lim]
       exact ⟨F12, rfl⟩
      | ok q =>
       obtain ⟨t, j⟩ := q
       rw [hr] at O
       obtain ⟨F2, x, rfl, H2, rfl⟩ := O
       have l2 := F12.limlen l0
       simp [Tok.cells, fgetAt, ones, lk l2, Ends]
       rw [Hp.back_of F12.lim]
       exact lit_out ⟨6, t.n, mkS [], 0, 0⟩ F12 l0 H2
    · simp [h3, act]
      refine PutA_of (kind_ok HY lYP 1) ?_
      rintro v h2 O
      have F12 := F0.trans O.1
      have hun : unaryS p n u i = fldR p (kindF p i 1) := by simp [unaryS, hm, hq, hc, h3]
      rw [hun]
      cases hr : kindF p i 1 with
      | error e =>
       rw [hr] at O
       obtain ⟨a, e⟩ := e
       obtain rfl : v = pErr a e := O.2
       simp [pErr, pv, Ends]
       rw [Hp.back_of F12.lim]
       exact ⟨F12, rfl⟩
      | ok q =>
       obtain ⟨t, j⟩ := q
       rw [hr] at O
       obtain ⟨F2, x, rfl, H2, rfl⟩ := O
       have l2 := F12.limlen l0
       have hw2 : h2.lim ≤ P := by rw [F12.lim]; exact hw
       simp [Tok.cells, fgetAt, ones, lk l2]
       obtain ⟨Z, eZ⟩ : ∃ Z, Z = (h2.new (.cells ⟨0, 5, true, 0, [[eI 0, eI 0, .p (.str (bs [])), eI 0, eI 0]]⟩)).setArr h2.objs.length ⟨0, 5, true, 0, [[.p (.int .i64 7), eI 0, .p (.str (mkS t.text)), eI 0, eI 0]]⟩ := ⟨_, rfl⟩
       have FZ : Fwd [] h2 Z := by rw [eZ]; exact ((Fwd.refl _ _).new _).set _ (.inr (Nat.le_refl _))
       have z1 : Z.arr h2.objs.length 0 = some ⟨0, 5, true, 0, [[.p (.int .i64 7), eI 0, .p (.str (mkS t.text)), eI 0, eI 0]]⟩ := by rw [eZ]; simp
       rw [← eZ]
       clear eZ
       have HZ := H2.fwd FZ (by simp)
       have hwZ : Z.lim ≤ P := by rw [FZ.lim]; exact hw2
       have FhZ : Fwd [P] h Z := F12.trans (FZ.mono (by simp))
       have hP2 := H2.lt
       refine PutA_of (may_ok HZ hwZ [46]) ?_
       rintro _ h3' ⟨rfl, H3, F3⟩
       have FhT := FhZ.trans F3
       have z3 := F3.arr z1 (by simp; omega)
       simp [act]
       refine PutA_of (must_ok H3 (p.is j [46])) ?_
       rintro _ h4 ⟨rfl, e4⟩
       rw [e4]
       cases hb : p.is j [46] with
       | false =>
        simp [pErr, pv, Ends, stepN]
        rw [Hp.back_of FhT.lim]
        refine ⟨FhT, ?_⟩
        rw [show fldR p (.ok (t, j)) = .error (p.at j, 11) from by simp [fldR, hb]]
        rfl
       | true =>
        rw [hb] at H3
        have hs1 : stepN true j = j + 1 := rfl
        rw [hs1] at H3
        have l3 := FhT.limlen l0
        have hw3 : h3'.lim ≤ P := by rw [FhT.lim]; exact hw
        have hP3 := H3.lt
        simp [ones, act]
        obtain ⟨W, eW⟩ : ∃ W, W = h3'.new (.cells ⟨0, 1, false, 0, [[.p (.str (bs [120]))], [.p (.str (bs [121]))], [.p (.str (bs [122]))], [.p (.str (bs [119]))]]⟩) := ⟨_, rfl⟩
        have FW : Fwd [] h3' W := by rw [eW]; exact (Fwd.refl _ _).new _
        have x1 : W.arr h3'.objs.length 0 = some ⟨0, 1, false, 0, xyzw.map fun s => [.p (.str (mkS s))]⟩ := by rw [eW]; simp; rfl
        rw [← eW]
        clear eW
        have hwW : W.lim ≤ P := by rw [FW.lim]; exact hw3
        have hpick := pick_ok (H3.fwd FW (by simp)) hwW (txs_lit (ss := xyzw) (len := 4) (f := true) x1 (by omega) rfl) (by decide)
        have hfl : fldR p (.ok (t, j)) = if 0 ≤ (pickF p (j + 1) 0 xyzw).1 then .ok ([⟨7, 0, mkS t.text, (pickF p (j + 1) 0 xyzw).1, 0⟩], (pickF p (j + 1) 0 xyzw).2) else .error (p.at (pickF p (j + 1) 0 xyzw).2, 11) := by simp [fldR, hb]
        obtain ⟨pk, hpk⟩ : ∃ pk, pickF p (j + 1) 0 xyzw = pk := ⟨_, rfl⟩
        obtain ⟨pk, pj⟩ := pk
        rw [hpk] at hpick hfl
        rw [hfl]
        refine PutA_of hpick ?_
        rintro v h5 ⟨F5, x5, rfl, H5, rfl⟩
        have FhW := (FhT.trans (FW.mono (by simp))).trans F5
        have z5 := F5.arr (FW.arr z3 (by simp)) (by simp; omega)
        have lt5 := arr_lt z5
        have lim5 : h5.lim ≤ h2.objs.length := by rw [FhW.lim]; have := F12.len; omega
        have hw5 : h5.lim ≤ P := by rw [FhW.lim]; exact hw
        have ne2 : h2.objs.length ∉ ([] : List Nat) := by simp
        simp [z5, lt5, lim5]
        obtain ⟨V, eV⟩ : ∃ V, V = h5.setArr h2.objs.length ⟨0, 5, true, 0, [[.p (.int .i64 7), eI 0, .p (.str (mkS t.text)), eI pk, eI 0]]⟩ := ⟨_, rfl⟩
        have FV : Fwd [h2.objs.length] h5 V := by rw [eV]; exact (Fwd.refl _ _).set _ (.inl (by simp))
        have v1 : V.arr h2.objs.length 0 = some ⟨0, 5, true, 0, [[.p (.int .i64 7), eI 0, .p (.str (mkS t.text)), eI pk, eI 0]]⟩ := by rw [eV]; simp [lt5]
        rw [← eV]
        clear eV
        have FhV : Fwd [P] h V := FhW.trans' FV (fun y hy => .inr (by simp at hy; have := F12.len; omega))
        have HV := H5.fwd FV (by simp; omega)
        have lV := FhV.limlen l0
        by_cases hp0 : 0 ≤ pk
        · simp only [hp0, decide_true, if_true]
          refine PutA_of (must_ok HV true) ?_
          rintro _ h6 ⟨rfl, e6⟩
          rw [e6]
          simp [v1, ones, lk lV, Ends]
          rw [Hp.back_of FhV.lim]
          exact lit_out ⟨7, 0, mkS t.text, pk, 0⟩ FhV l0 HV
        · simp only [hp0, decide_false, if_false]
          refine PutA_of (must_ok HV false) ?_
          rintro _ h6 ⟨rfl, e6⟩
          rw [e6]
          simp [pErr, pv, Ends]
          rw [Hp.back_of FhV.lim]
          exact ⟨FhV, rfl⟩
theorem unary_ok {P : Nat} {p : Prs} : ∀ d, d ≤ 16 → Part n_query_parser_unary P p (16 - d) (unaryF p d)
 | 0, _ => unaryS_ok (fun i l j h => by cases h) (fun h => absurd h (by omega))
 | d + 1, hd => by
  have ih := unary_ok (P := P) (p := p) d (by omega)
  have e : 16 - (d + 1) = 15 - d := by omega
  rw [e]
  refine unaryS_ok (unaryF_few p d) fun hn => ?_
  rw [show 15 - d + 1 = 16 - d by omega]
  exact ih
def sumF (p : Prs) (i : Nat) : PR (List Code) := chainF p (chainF p (unaryF p 16) 3 muls) 1 adds i
omit [Mx] in
theorem sumF_few (p : Prs) : Few (sumF p) := chainF_few (chainF_few (unaryF_few p 16))
theorem sum0_ok {P : Nat} {p : Prs} : Part n_query_parser_sum P p 0 (sumF p) :=
 sum_ok (chainF_few (unaryF_few p 16)) (product_ok (unaryF_few p 16) (unary_ok 16 (Nat.le_refl _)))
end Dk.M
