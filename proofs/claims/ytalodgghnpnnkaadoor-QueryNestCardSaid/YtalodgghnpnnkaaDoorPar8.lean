/- The parser: elements, conditions, at D. -/
import Derived.Test.YtalodgghnpnnkaaDoorPar7
set_option linter.unusedVariables false
set_option linter.unusedSimpArgs false
set_option linter.unusedSectionVars false
namespace Dk.M
open Go Dk
variable [Mx]
def elemF (p : Prs) (i : Nat) : PR Elem := match kindF p (stepN (p.is i [33]) i) 2 with
 | .error e => .error e
 | .ok (t, j) => match kindF p (stepN (p.is j [43]) j) 1 with
  | .error e => .error e
  | .ok (u, k) => .ok (⟨t.n, mkS u.text, p.is j [43], p.is i [33]⟩, k)
theorem elem_ok {h : Hp} {P : Nat} {p : Prs} {i : Nat} (H : Par h P p i 0) (hw : h.lim ≤ P) : WA (C0 n_query_parser_elem [.ptr P 0 0 0, pagm] h) (Out h P p 0 (fun e x _ => x = .agg e.cells) (elemF p i)) := by
 refine call_W noExt_mono (f := n_query_parser_elem) rfl rfl ?_
 have hP := H.lt
 have l0 : h.lim ≤ h.objs.length := by omega
 simp [pagm]
 obtain ⟨X, eX⟩ : ∃ X, X = h.new (.cells ⟨0, 4, true, 0, [[eI 0, .p (.str (bs [])), eB false, eB false]]⟩) := ⟨_, rfl⟩
 have FX0 : Fwd [] h X := by rw [eX]; exact (Fwd.refl _ _).new _
 have x0 : X.arr h.objs.length 0 = some ⟨0, 4, true, 0, [[eI 0, .p (.str (bs [])), eB false, eB false]]⟩ := by rw [eX]; simp
 rw [← eX]
 clear eX
 have FX : Fwd [P] h X := FX0.mono (by simp)
 have HX := H.fwd FX0 (by simp)
 have hwX : X.lim ≤ P := by rw [FX.lim]; exact hw
 refine PutA_of (may_ok HX hwX [33]) ?_
 rintro _ h1 ⟨rfl, H1, F1⟩
 have FT1 := FX.trans F1
 have hw1 : h1.lim ≤ P := by rw [FT1.lim]; exact hw
 simp [act]
 refine PutA_of (kind_ok H1 hw1 2) ?_
 rintro v h2 O
 have FT2 := FT1.trans O.1
 have hel : elemF p i = match kindF p (stepN (p.is i [33]) i) 2 with
  | .error e => .error e
  | .ok (t, j) => match kindF p (stepN (p.is j [43]) j) 1 with
   | .error e => .error e
   | .ok (u, k) => .ok (⟨t.n, mkS u.text, p.is j [43], p.is i [33]⟩, k) := rfl
 rw [hel]
 clear hel
 cases hr : kindF p (stepN (p.is i [33]) i) 2 with
 | error e =>
  rw [hr] at O
  obtain ⟨a, e⟩ := e
  obtain rfl : v = pErr a e := O.2
  simp [pErr, pv, Ends]
  rw [Hp.back_of FT2.lim]
  exact ⟨FT2, rfl⟩
 | ok q =>
  obtain ⟨t, j⟩ := q
  rw [hr] at O
  obtain ⟨F2, x, rfl, H2, rfl⟩ := O
  have hw2 : h2.lim ≤ P := by rw [FT2.lim]; exact hw
  simp [Tok.cells, fgetAt]
  refine PutA_of (may_ok H2 hw2 [43]) ?_
  rintro _ h3 ⟨rfl, H3, F3⟩
  have FT3 := FT2.trans F3
  have hw3 : h3.lim ≤ P := by rw [FT3.lim]; exact hw
  simp [act]
  refine PutA_of (kind_ok H3 hw3 1) ?_
  rintro v h4 O
  have FT4 := FT3.trans O.1
  cases hr2 : kindF p (stepN (p.is j [43]) j) 1 with
  | error e =>
   rw [hr2] at O
   obtain ⟨a, e⟩ := e
   obtain rfl : v = pErr a e := O.2
   simp [pErr, pv, Ends]
   rw [Hp.back_of FT4.lim]
   exact ⟨FT4, rfl⟩
  | ok q =>
   obtain ⟨u, k⟩ := q
   rw [hr2] at O
   obtain ⟨F4, x, rfl, H4, rfl⟩ := O
   have hne : h.objs.length ∉ [P] := by simp; omega
   have x4 := F4.arr (F3.arr (F2.arr (F1.arr x0 hne) hne) hne) hne
   have lt4 := arr_lt x4
   have lim4 : h4.lim ≤ h.objs.length := by rw [FT4.lim]; exact l0
   simp [Tok.cells, fgetAt, ones, x4, lt4, lim4, Ends]
   rw [Hp.back_of FT4.lim]
   refine ⟨FT4.trans' ((Fwd.refl [h.objs.length] _).set _ (.inl (by simp))) (fun y hy => .inr (by simp at hy; omega)), _, rfl, H4.fwd ((Fwd.refl [h.objs.length] _).set _ (.inl (by simp))) (by simp; omega), rfl⟩
omit [Mx] in
@[simp] theorem Run_sla (C : CallFn) (l : List Step) (k : List Ct) (fr : Fr) (h : Hp) (Q : Ex → Fr → Hp → Prop) (d : Option Nat) (n sz : Nat) (x : X) : Run C (.ops (⟨d, .sla n sz x none none, none, []⟩ :: l) :: k) .normal fr h Q = PutO C d (sliceArr n sz (x.ev fr) none none) (.ops l :: k) fr h Q := by
 rw [Run_look (hk := rfl)]
 rfl
def sgs : List (List UInt8) := [[61], [33, 61], [60], [60, 61], [62], [62, 61]]
def condF (p : Prs) (i : Nat) : PR (Int × List Code × List Code) := match sumF p i with
 | .error e => .error e
 | .ok (l, j) => if 0 < (pickF p j 0 sgs).1 + 1 then (match sumF p (pickF p j 0 sgs).2 with
  | .error e => .error e
  | .ok (r, k) => .ok (((pickF p j 0 sgs).1 + 1, l, r), k)) else .error (p.at (pickF p j 0 sgs).2, 11)
def CndA (B : Nat) (c : Int × List Code × List Code) (x : EV) (h' : Hp) : Prop := ∃ lv rv, x = .agg [eI c.1, lv, rv] ∧ CdA B c.2.1 lv h' ∧ CdA B c.2.2 rv h'
theorem cond_ok {h : Hp} {P : Nat} {p : Prs} {i : Nat} (H : Par h P p i 0) (hw : h.lim ≤ P) : WA (C0 n_query_parser_cond [.ptr P 0 0 0, pagm] h) (Out h P p 0 (CndA h.objs.length) (condF p i)) := by
 refine call_W noExt_mono (f := n_query_parser_cond) rfl rfl ?_
 have hP := H.lt
 have l0 : h.lim ≤ h.objs.length := by omega
 simp [pagm, act]
 obtain ⟨X, eX⟩ : ∃ X, X = h.new (.cells ⟨0, 3, true, 0, [[eI 0, .full [], .full []]]⟩) := ⟨_, rfl⟩
 have FX0 : Fwd [] h X := by rw [eX]; exact (Fwd.refl _ _).new _
 have x0 : X.arr h.objs.length 0 = some ⟨0, 3, true, 0, [[eI 0, .full [], .full []]]⟩ := by rw [eX]; simp
 have nX : X.objs.length = h.objs.length + 1 := by rw [eX]; simp
 rw [← eX]
 clear eX
 have FX : Fwd [P] h X := FX0.mono (by simp)
 have HX := H.fwd FX0 (by simp)
 have hwX : X.lim ≤ P := by rw [FX.lim]; exact hw
 refine PutA_of (sum0_ok X i HX hwX) ?_
 rintro v h1 O
 have FT1 := FX.trans O.1
 have hcf : condF p i = match sumF p i with
  | .error e => .error e
  | .ok (l, j) => if 0 < (pickF p j 0 sgs).1 + 1 then (match sumF p (pickF p j 0 sgs).2 with
   | .error e => .error e
   | .ok (r, k) => .ok (((pickF p j 0 sgs).1 + 1, l, r), k)) else .error (p.at (pickF p j 0 sgs).2, 11) := rfl
 rw [hcf]
 clear hcf
 cases hr : sumF p i with
 | error e =>
  rw [hr] at O
  obtain ⟨a, e⟩ := e
  obtain rfl : v = pErr a e := O.2
  simp [pErr, pv, Ends]
  rw [Hp.back_of FT1.lim]
  exact ⟨FT1, rfl⟩
 | ok q =>
  obtain ⟨l, j⟩ := q
  rw [hr] at O
  obtain ⟨F1, x, rfl, H1, A1⟩ := O
  have hne : h.objs.length ∉ [P] := by simp; omega
  have y0 := F1.arr x0 hne
  obtain ⟨fr1, O1, hfr1⟩ := A1
  have fr1lt : ∀ y ∈ fr1, y < h1.objs.length := O1.lt
  have vo := (View.own O1).one
  have vc := (View.own O1).cells
  have l1 := FT1.limlen l0
  have hw1 : h1.lim ≤ P := by rw [FT1.lim]; exact hw
  simp [ones, vo, vc, lk l1]
  obtain ⟨Y, eY⟩ : ∃ Y, Y = (h1.new (.cells ⟨0, 3, true, 0, [[eI 0, .full [], .full []]]⟩)).setArr h1.objs.length ⟨0, 3, true, 0, [[eI 0, x, .full []]]⟩ := ⟨_, rfl⟩
  have FY : Fwd [] h1 Y := by rw [eY]; exact ((Fwd.refl _ _).new _).set _ (.inr (Nat.le_refl _))
  have y1 : Y.arr h1.objs.length 0 = some ⟨0, 3, true, 0, [[eI 0, x, .full []]]⟩ := by rw [eY]; simp
  rw [← eY]
  clear eY
  have HY := H1.fwd FY (by simp)
  have hwY : Y.lim ≤ P := by rw [FY.lim]; exact hw1
  have y0 := FY.arr y0 (by simp)
  have O1 := O1.fwd FY (by simp)
  have FTY := FT1.trans (FY.mono (by simp))
  have hT : Txs Y P (.full [.str (bs [61]), .str (bs [33, 61]), .str (bs [60]), .str (bs [60, 61]), .str (bs [62]), .str (bs [62, 61])]) sgs := fun h' _ => View.full (xs := [.str (bs [61]), .str (bs [33, 61]), .str (bs [60]), .str (bs [60, 61]), .str (bs [62]), .str (bs [62, 61])]) rfl
  have hpick := pick_ok HY hwY hT (by decide)
  obtain ⟨pk, hpk⟩ : ∃ pk, pickF p j 0 sgs = pk := ⟨_, rfl⟩
  have hpat := pickF_at p j sgs 0
  obtain ⟨pk, pj⟩ := pk
  rw [hpk] at hpick hpat
  simp only [hpk]
  simp [sliceArr, PD.scal]
  have wp : IntKind.i64.wrap (pk + 1) = pk + 1 := by
   rcases hpat with ⟨q, -⟩ | ⟨m, q, -, q2, -⟩
   · simp only at q; rw [q]; decide
   · simp only at q; simp [sgs] at q2; exact wrap64 (by omega) (by omega)
  refine PutA_of hpick ?_
  rintro v h2 ⟨F2, x2, rfl, H2, rfl⟩
  have FT2 := FTY.trans F2
  have hi3 : h.objs.length ≤ h1.objs.length := FT1.len
  have hn1 : h1.objs.length ∉ [P] := by simp; omega
  have w1 := F2.arr y1 hn1
  have w0 := F2.arr y0 hne
  have ltw := arr_lt w1
  have O1 := O1.fwd F2 (fun y hy e => by simp at e; have := hfr1 y hy; have := FX.len; omega)
  have lim2 : h2.lim ≤ h1.objs.length := by rw [FT2.lim]; omega
  simp [w1, wp, ltw, lim2]
  obtain ⟨Z, eZ⟩ : ∃ Z, Z = h2.setArr h1.objs.length ⟨0, 3, true, 0, [[.p (.int .i64 (pk + 1)), x, .full []]]⟩ := ⟨_, rfl⟩
  have FZ : Fwd [h1.objs.length] h2 Z := by rw [eZ]; exact (Fwd.refl _ _).set _ (.inl (by simp))
  have z1 : Z.arr h1.objs.length 0 = some ⟨0, 3, true, 0, [[eI (pk + 1), x, .full []]]⟩ := by rw [eZ]; simp [ltw]
  rw [← eZ]
  clear eZ
  have ltO := O1.lt
  have FTZ : Fwd [P] h Z := FT2.trans' FZ (fun y hy => .inr (by simp at hy; omega))
  have HZ := H2.fwd FZ (by simp; omega)
  have hwZ : Z.lim ≤ P := by rw [FTZ.lim]; exact hw
  have hne3 : h.objs.length ∉ [h1.objs.length] := by
   have := F1.len
   simp
   omega
  have z0 := FZ.arr w0 hne3
  have O1 := O1.fwd FZ (fun y hy e => by simp at e; have := fr1lt y hy; omega)
  by_cases hp0 : 0 < pk + 1
  · simp only [hp0, decide_true, if_true]
    refine PutA_of (must_ok HZ true) ?_
    rintro _ h6 ⟨rfl, e6⟩
    rw [e6]
    simp [act]
    refine PutA_of (sum0_ok Z pj HZ hwZ) ?_
    rintro v h7 O
    have FT7 := FTZ.trans O.1
    cases hr7 : sumF p pj with
    | error e =>
     rw [hr7] at O
     obtain ⟨a, e⟩ := e
     obtain rfl : v = pErr a e := O.2
     simp [pErr, pv, Ends]
     rw [Hp.back_of FT7.lim]
     exact ⟨FT7, rfl⟩
    | ok q =>
     obtain ⟨r, k⟩ := q
     rw [hr7] at O
     obtain ⟨F7, x7, rfl, H7, fr7, O7, hfr7⟩ := O
     have u1 := F7.arr z1 hn1
     have u0 := F7.arr z0 hne
     have ltu1 := arr_lt u1
     have ltu0 := arr_lt u0
     have vo7 := (View.own O7).one
     have vc7 := (View.own O7).cells
     have O1 := O1.fwd F7 (fun y hy e => by simp at e; have := hfr1 y hy; have := FX.len; omega)
     have lim7 : h7.lim ≤ h1.objs.length := by rw [FT7.lim]; omega
     have lim7' : h7.lim ≤ h.objs.length := by rw [FT7.lim]; omega
     have ne01 : (h.objs.length = h1.objs.length) = False := eq_false (by have := F1.len; omega)
     simp [u1, u0, vo, vc, vo7, vc7, ltu1, ltu0, lim7, lim7', ones, ne01, Ends]
     rw [Hp.back_of FT7.lim]
     obtain ⟨W, eW⟩ : ∃ W, W = (h7.setArr h1.objs.length ⟨0, 3, true, 0, [[eI (pk + 1), x, x7]]⟩).setArr h.objs.length ⟨0, 3, true, 0, [[eI (pk + 1), x, x7]]⟩ := ⟨_, rfl⟩
     have FW : Fwd [h1.objs.length, h.objs.length] h7 W := by rw [eW]; exact ((Fwd.refl _ _).set _ (.inl (by simp))).set _ (.inl (by simp))
     rw [← eW]
     have hZl := FZ.len
     have h2l := F2.len
     have hYl := FY.len
     refine ⟨FT7.trans' FW (fun y hy => .inr (by simp at hy; omega)), _, rfl, H7.fwd FW (by simp; omega), x, x7, rfl, ⟨fr1, O1.fwd FW (fun y hy e => ?_), fun y hy => by have := hfr1 y hy; omega⟩, ⟨fr7, O7.fwd FW (fun y hy e => ?_), fun y hy => by have := hfr7 y hy; omega⟩⟩
     · have := hfr1 y hy
       have := fr1lt y hy
       simp at e
       omega
     · have := hfr7 y hy
       simp at e
       omega
  · simp only [hp0, decide_false, if_false]
    refine PutA_of (must_ok HZ false) ?_
    rintro _ h6 ⟨rfl, e6⟩
    rw [e6]
    simp [pErr, pv, Ends]
    rw [Hp.back_of FTZ.lim]
    exact ⟨FTZ, rfl⟩
end Dk.M
