/- The parser: whole queries, at D. -/
import Derived.Test.YtalodgghnpnnkaaDoorPar8
set_option linter.unusedVariables false
set_option linter.unusedSimpArgs false
set_option linter.unusedSectionVars false
namespace Dk.M
open Go Dk
variable [Mx]
abbrev Cnd := Int × List Code × List Code
def elsL (p : Prs) : Nat → List Elem → Nat → PR (List Elem)
 | 0, l, i => .ok (l, i)
 | z + 1, l, i => match elemF p i with
  | .error e => .error e
  | .ok (e, j) => if p.is j [44] = true then elsL p z (l ++ [e]) (j + 1) else .ok (l ++ [e], j)
def cndsL (p : Prs) : Nat → List Cnd → Nat → PR (List Cnd)
 | 0, l, i => .ok (l, i)
 | z + 1, l, i => match condF p i with
  | .error e => .error e
  | .ok (c, j) => if p.is j [97, 110, 100] = true then cndsL p z (l ++ [c]) (j + 1) else .ok (l ++ [c], j)
abbrev Q0 := List Elem × List Cnd × Int × Bool
def tailF (p : Prs) (es : List Elem) (cs : List Cnd) (w : Int) (k : Nat) : PR Q0 :=
 if (!p.is k [98, 121] || p.is (stepN (p.is k [98, 121]) k) [107, 101, 121]) = true then
  (if stepN (p.is k [98, 121]) (stepN (p.is k [98, 121]) k) = p.ts.length then .ok ((es, cs, w, p.is k [98, 121]), stepN (p.is k [98, 121]) (stepN (p.is k [98, 121]) k))
   else .error (p.at (stepN (p.is k [98, 121]) (stepN (p.is k [98, 121]) k)), 11))
 else .error (p.at (stepN (p.is k [98, 121]) k), 11)
def withinQ (p : Prs) (es : List Elem) : PR (List Cnd) → PR Q0
 | .error e => .error e
 | .ok (cs, j) => if p.is j [119, 105, 116, 104, 105, 110] = true then (match kindF p (j + 1) 3 with
  | .error e => .error e
  | .ok (t, k) => tailF p es cs t.n k) else .error (p.at j, 11)
def whereF (p : Prs) (i : Nat) : PR (List Cnd) := if p.is i [119, 104, 101, 114, 101] = true then cndsL p (p.ts.length + 1) [] (i + 1) else .ok ([], i)
def elsQ (p : Prs) : PR (List Elem) → PR Q0
 | .error e => .error e
 | .ok (es, i) => withinQ p es (whereF p i)
def queryF (p : Prs) : PR Q0 := if p.is 0 [115, 101, 113] = true then elsQ p (elsL p (p.ts.length + 1) [] 1) else .error (p.at 0, 11)
structure QOK (B : Nat) (q : Q0) (x : EV) (h' : Hp) : Prop where
 ex : ∃ (ev cv : EV) (cl : List Cond) (f1 f2 : List Nat), x = .agg [ev, cv, eI q.2.2.1, eB q.2.2.2] ∧ Own h' 4 true ev (q.1.map Elem.cells) f1 ∧ (∀ y ∈ f1, B ≤ y) ∧ Own h' 3 true cv (cl.map Cond.cells) f2 ∧ (∀ y ∈ f2, B ≤ y) ∧
  cl.map (fun c => (c.op, c.l, c.r)) = q.2.1 ∧ ∀ c ∈ cl, CdA B c.l c.lv h' ∧ CdA B c.r c.rv h'
omit [Mx] in
theorem elemF_lt {p : Prs} {i : Nat} {e : Elem} {j : Nat} (h : elemF p i = .ok (e, j)) : i < j := by
 unfold elemF at h
 cases hk : kindF p (stepN (p.is i [33]) i) 2 with
 | error e => rw [hk] at h; cases h
 | ok q =>
  obtain ⟨t, k⟩ := q
  rw [hk] at h
  simp only at h
  have h1 := (kindF_ok hk).1
  cases hk2 : kindF p (stepN (p.is k [43]) k) 1 with
  | error e => rw [hk2] at h; cases h
  | ok q2 =>
   obtain ⟨u, k2⟩ := q2
   rw [hk2] at h
   simp only [Except.ok.injEq, Prod.mk.injEq] at h
   have h2 := (kindF_ok hk2).1
   have s1 : ∀ b n, n ≤ stepN b n := fun b n => by unfold stepN; split <;> omega
   have := s1 (p.is i [33]) i
   have := s1 (p.is k [43]) k
   omega
omit [Mx] in
theorem condF_lt {p : Prs} {i : Nat} {c : Cnd} {j : Nat} (h : condF p i = .ok (c, j)) : i < j := by
 unfold condF at h
 cases hk : sumF p i with
 | error e => rw [hk] at h; cases h
 | ok q =>
  obtain ⟨l, k⟩ := q
  rw [hk] at h
  simp only at h
  have h1 := sumF_few p _ _ _ hk
  split at h
  · rename_i hp
    cases hk2 : sumF p (pickF p k 0 sgs).2 with
    | error e => rw [hk2] at h; cases h
    | ok q2 =>
     obtain ⟨r, k2⟩ := q2
     rw [hk2] at h
     simp only [Except.ok.injEq, Prod.mk.injEq] at h
     have h2 := sumF_few p _ _ _ hk2
     rcases pickF_at p k sgs 0 with ⟨q, -⟩ | ⟨m, -, -, -, q, -⟩
     · rw [q] at hp; omega
     · omega
  · cases h
@[simp] theorem Run_mayc (C : CallFn) (l : List Step) (k : List Ct) (fr : Fr) (h : Hp) (Q : Ex → Fr → Hp → Prop) (d : Option Nat) (a : X) (b : List X) (c0 : Chk) (cs : List Chk) : Run C (.ops (⟨d, .may a b, none, c0 :: cs⟩ :: l) :: k) .normal fr h Q = PutC C d (c0 :: cs) (act C (.may a b) fr h) (.ops l :: k) fr Q := Run_chk _ _ _ _ _ _ _ _ rfl _ _
structure ElI (h X : Hp) (P B : Nat) (p : Prs) (R : PR (List Elem)) (z : Nat) (f : Fr) (h' : Hp) : Prop where
 ex : ∃ (i : Nat) (es : List Elem) (ev : EV) (fr : List Nat) (more : Bool), p.ts.length + 1 - i ≤ z ∧ es.length ≤ i ∧ R = (if more = true then elsL p z es i else .ok (es, i)) ∧ Par h' P p i 0 ∧ Fwd [P] h h' ∧ h'.arr B 0 = some ⟨0, 4, true, 0, [[ev, .full [], eI 0, eB false]]⟩ ∧
  Own h' 4 true ev (es.map Elem.cells) fr ∧ (∀ y ∈ fr, B < y) ∧ f.get 0 = .ptr P 0 0 0 ∧ f.get 2 = .ptr B 0 0 0 ∧ f.get 3 = eB more
def Cond.tri (c : Cond) : Cnd := (c.op, c.l, c.r)
def Rows2 (h : Hp) (B : Nat) (f : List Nat) (c : Cond) : Prop := ∃ fl fr, Own h 5 true c.lv (c.l.map Code.cells) fl ∧ Own h 5 true c.rv (c.r.map Code.cells) fr ∧ (∀ y ∈ fl, B < y ∧ y ∉ f) ∧ ∀ y ∈ fr, B < y ∧ y ∉ f
omit [Mx] in
theorem Rows2.fwd {h h' : Hp} {B : Nat} {f ids : List Nat} {c : Cond} (R : Rows2 h B f c) (F : Fwd ids h h') (hi : ∀ y ∈ ids, y ≤ B ∨ y ∈ f) : Rows2 h' B f c := by
 obtain ⟨fl, fr, O1, O2, q1, q2⟩ := R
 refine ⟨fl, fr, O1.fwd F (fun y hy e => ?_), O2.fwd F (fun y hy e => ?_), q1, q2⟩
 · have := q1 y hy
   rcases hi y e with z | z
   · omega
   · exact this.2 z
 · have := q2 y hy
   rcases hi y e with z | z
   · omega
   · exact this.2 z
omit [Mx] in
theorem Rows2.grow {h : Hp} {B : Nat} {f f' : List Nat} {c : Cond} (R : Rows2 h B f c) (hg : ∀ y ∈ f', y ∈ f ∨ h.objs.length ≤ y) : Rows2 h B f' c := by
 obtain ⟨fl, fr, O1, O2, q1, q2⟩ := R
 refine ⟨fl, fr, O1, O2, fun y hy => ⟨(q1 y hy).1, fun e => ?_⟩, fun y hy => ⟨(q2 y hy).1, fun e => ?_⟩⟩
 · rcases hg y e with z | z
   · exact (q1 y hy).2 z
   · have := O1.lt y hy; omega
 · rcases hg y e with z | z
   · exact (q2 y hy).2 z
   · have := O2.lt y hy; omega
def Bun (B : Nat) (es : List Elem) (cs : List Cond) (ev cv : EV) (h : Hp) : Prop := ∃ f1 f2, Own h 4 true ev (es.map Elem.cells) f1 ∧ (∀ y ∈ f1, B < y) ∧ Own h 3 true cv (cs.map Cond.cells) f2 ∧ (∀ y ∈ f2, B < y) ∧ ∀ c ∈ cs, Rows2 h B f2 c
omit [Mx] in
theorem Bun.fwd {B : Nat} {es : List Elem} {cs : List Cond} {ev cv : EV} {h h' : Hp} {ids : List Nat} (b : Bun B es cs ev cv h) (F : Fwd ids h h') (hi : ∀ y ∈ ids, y ≤ B) : Bun B es cs ev cv h' := by
 obtain ⟨f1, f2, O1, q1, O2, q2, r⟩ := b
 exact ⟨f1, f2, O1.fwd F (fun y hy e => by have := hi y e; have := q1 y hy; omega), q1, O2.fwd F (fun y hy e => by have := hi y e; have := q2 y hy; omega), q2, fun c hc => (r c hc).fwd F (fun y hy => .inl (hi y hy))⟩
omit [Mx] in
theorem Bun.qok {B : Nat} {es : List Elem} {cs : List Cond} {ev cv : EV} {h : Hp} (b : Bun B es cs ev cv h) (w : Int) (k : Bool) : QOK B (es, cs.map Cond.tri, w, k) (.agg [ev, cv, eI w, eB k]) h := by
 obtain ⟨f1, f2, O1, q1, O2, q2, r⟩ := b
 refine ⟨ev, cv, cs, f1, f2, rfl, O1, fun y hy => by have := q1 y hy; omega, O2, fun y hy => by have := q2 y hy; omega, rfl, fun c hc => ?_⟩
 obtain ⟨fl, fr, G1, G2, s1, s2⟩ := r c hc
 exact ⟨⟨fl, G1, fun y hy => by have := (s1 y hy).1; omega⟩, ⟨fr, G2, fun y hy => by have := (s2 y hy).1; omega⟩⟩
omit [Mx] in
theorem Bun.vals {B : Nat} {es : List Elem} {cs : List Cond} {ev cv : EV} {h : Hp} (b : Bun B es cs ev cv h) : EV.one ev = true ∧ ev.cells = [ev] ∧ EV.one cv = true ∧ cv.cells = [cv] := by
 obtain ⟨f1, f2, O1, q1, O2, q2, r⟩ := b
 exact ⟨(View.own O1).one, (View.own O1).cells, (View.own O2).one, (View.own O2).cells⟩
structure ClI (h : Hp) (P B : Nat) (p : Prs) (es : List Elem) (ev : EV) (R : PR (List Cnd)) (z : Nat) (f : Fr) (h' : Hp) : Prop where
 ex : ∃ (i : Nat) (cs : List Cond) (cv : EV) (f1 f2 : List Nat) (more : Bool), p.ts.length + 1 - i ≤ z ∧ cs.length ≤ i ∧ R = (if more = true then cndsL p z (cs.map Cond.tri) i else .ok (cs.map Cond.tri, i)) ∧ Par h' P p i 0 ∧ Fwd [P] h h' ∧ h'.arr B 0 = some ⟨0, 4, true, 0, [[ev, cv, eI 0, eB false]]⟩ ∧
  Own h' 4 true ev (es.map Elem.cells) f1 ∧ (∀ y ∈ f1, B < y ∧ y ∉ f2) ∧ Own h' 3 true cv (cs.map Cond.cells) f2 ∧ (∀ y ∈ f2, B < y) ∧ (∀ c ∈ cs, Rows2 h' B f2 c) ∧ f.get 0 = .ptr P 0 0 0 ∧ f.get 2 = .ptr B 0 0 0 ∧ f.get 4 = eB more
theorem query_ok {h : Hp} {P : Nat} {p : Prs} (H : Par h P p 0 0) (hw : h.lim ≤ P) : WA (C0 n_query_parser_query [.ptr P 0 0 0, pagm] h) (Out h P p 0 (QOK h.objs.length) (queryF p)) := by
 refine call_W noExt_mono (f := n_query_parser_query) rfl rfl ?_
 have hP := H.lt
 have hbig := p.big
 have l0 : h.lim ≤ h.objs.length := by omega
 simp [pagm, act]
 obtain ⟨X, eX⟩ : ∃ X, X = h.new (.cells ⟨0, 4, true, 0, [[.full [], .full [], eI 0, eB false]]⟩) := ⟨_, rfl⟩
 have FX0 : Fwd [] h X := by rw [eX]; exact (Fwd.refl _ _).new _
 have x0 : X.arr h.objs.length 0 = some ⟨0, 4, true, 0, [[.full [], .full [], eI 0, eB false]]⟩ := by rw [eX]; simp
 have nX : X.objs.length = h.objs.length + 1 := by rw [eX]; simp
 rw [← eX]
 clear eX
 have FX : Fwd [P] h X := FX0.mono (by simp)
 have HX := H.fwd FX0 (by simp)
 have hwX : X.lim ≤ P := by rw [FX.lim]; exact hw
 have hne : h.objs.length ∉ [P] := by simp; omega
 refine PutA_of (may_ok HX hwX [115, 101, 113]) ?_
 rintro _ h1 ⟨rfl, H1, F1⟩
 have FT1 := FX.trans F1
 have x1 := F1.arr x0 hne
 simp [act]
 refine PutA_of (must_ok H1 (p.is 0 [115, 101, 113])) ?_
 rintro _ h6 ⟨rfl, e6⟩
 rw [e6]
 cases hsq : p.is 0 [115, 101, 113] with
 | false =>
  simp [pErr, pv, Ends, stepN]
  rw [Hp.back_of FT1.lim]
  exact ⟨FT1, by simp [queryF, hsq, pErr, pv]⟩
 | true =>
  rw [hsq] at H1
  have hs1 : stepN true 0 = 1 := rfl
  rw [hs1] at H1
  rw [show queryF p = elsQ p (elsL p (p.ts.length + 1) [] 1) from by simp [queryF, hsq]]
  simp
  obtain ⟨R1, hR1⟩ : ∃ R1, R1 = elsL p (p.ts.length + 1) [] 1 := ⟨_, rfl⟩
  rw [← hR1]
  refine Run_loop (ElI h X P h.objs.length p R1) (n := p.ts.length + 1) ⟨1, [], .full [], [], true, by omega, by simp, by simp [hR1], H1, FT1, x1, .nil, by simp, by simp, by simp, by simp⟩ ?_
  rintro z f h2 ⟨i, es, ev, fr, more, z1, z2, z3, H2, F2, a2, O2, hfr, g0, g2, g3⟩
  have l2 := F2.limlen l0
  have hw2 : h2.lim ≤ P := by rw [F2.lim]; exact hw
  have lB2 : h2.lim ≤ h.objs.length := by rw [F2.lim]; exact l0
  have hi2 := H2.le
  cases more with
  | true =>
   obtain ⟨z', rfl⟩ : ∃ z', z = z' + 1 := ⟨z - 1, by omega⟩
   rw [if_pos rfl, elsL] at z3
   have veq := (View.own O2).eqb
   simp [g0, g2, g3, a2, act]
   refine PutC_of (elem_ok H2 hw2) ?_
   rintro v h3 O
   have FT3 := F2.trans O.1
   have a3 := O.1.arr a2 hne
   cases he : elemF p i with
   | error e =>
    rw [he] at O z3
    obtain ⟨a, e⟩ := e
    obtain rfl : v = pErr a e := O.2
    simp [a3, veq, pErr, pv, Ends]
    rw [Hp.back_of FT3.lim, z3]
    exact ⟨FT3, rfl⟩
   | ok q =>
    obtain ⟨e, j⟩ := q
    have hlt := elemF_lt he
    rw [he] at O z3
    simp only at z3
    obtain ⟨F3, x, rfl, H3, rfl⟩ := O
    have l3 := FT3.limlen l0
    have hj3 := H3.le
    have O3 := O2.fwd F3 (fun y hy q => by simp at q; have := hfr y hy; omega)
    simp [a3, veq, ones, lk l3, Elem.cells]
    obtain ⟨Y, eY⟩ : ∃ Y, Y = h3.new (.cells ⟨0, 4, true, 0, [e.cells]⟩) := ⟨_, rfl⟩
    have e1 : h3.new (.cells ⟨0, 4, true, 0, [[eI e.ty, .p (.str e.v), eB e.plus, eB e.not]]⟩) = Y := by rw [eY]; rfl
    rw [e1]
    have FY : Fwd [] h3 Y := by rw [eY]; exact (Fwd.refl _ _).new _
    have y1 : Y.arr h3.objs.length 0 = some ⟨0, 4, true, 0, [e.cells]⟩ := by rw [eY]; simp
    clear e1 eY
    have O4 := O3.fwd FY (by simp)
    refine PutA_of (O4.append (ys := [e.cells]) (by simp [elsOf, y1]) (by simp; omega) (FY.limlen l3)) ?_
    rintro v5 h5 ⟨fr5, O5, F5, G5⟩
    have nB : h.objs.length ∉ fr := fun q => by have := hfr _ q; omega
    have nP : P ∉ fr := fun q => by have := hfr _ q; omega
    have a5 := F5.arr (FY.arr a3 (by simp)) nB
    have H5 := (H3.fwd FY (by simp)).fwd F5 nP
    have hfr5 : ∀ y ∈ fr5, h.objs.length < y := fun y hy => by
     rcases G5 y hy with q | q
     · exact hfr y q
     · have := FY.len; have := FT3.len; have := arr_lt a3; omega
    have FT5 : Fwd [P] h h5 := (FT3.trans (FY.mono (by simp))).trans' F5 (fun y hy => .inr (by have := hfr y hy; omega))
    have lt5 := arr_lt a5
    have lB5 : h5.lim ≤ h.objs.length := by rw [FT5.lim]; exact l0
    have hw5 : h5.lim ≤ P := by rw [FT5.lim]; exact hw
    have vo5 := (View.own O5).one
    have vc5 := (View.own O5).cells
    simp [g0, g2, a5, vo5, vc5, lt5, lB5]
    obtain ⟨Z, eZ⟩ : ∃ Z, Z = h5.setArr h.objs.length ⟨0, 4, true, 0, [[v5, .full [], eI 0, eB false]]⟩ := ⟨_, rfl⟩
    have FZ : Fwd [h.objs.length] h5 Z := by rw [eZ]; exact (Fwd.refl _ _).set _ (.inl (by simp))
    have z1' : Z.arr h.objs.length 0 = some ⟨0, 4, true, 0, [[v5, .full [], eI 0, eB false]]⟩ := by rw [eZ]; simp [lt5]
    rw [← eZ]
    clear eZ
    have HZ := H5.fwd FZ (by simp; omega)
    have FTZ : Fwd [P] h Z := FT5.trans' FZ (fun y hy => .inr (by simp at hy; omega))
    have hwZ : Z.lim ≤ P := by rw [FTZ.lim]; exact hw
    have O6 := O5.fwd FZ (fun y hy q => by simp at q; have := hfr5 y hy; omega)
    refine PutA_of (may_ok HZ hwZ [44]) ?_
    rintro _ h7 ⟨rfl, H7, F7⟩
    simp
    refine ⟨z', by omega, stepN (p.is j [44]) j, es ++ [e], v5, fr5, p.is j [44], ?_, ?_, ?_, H7, FTZ.trans F7, F7.arr z1' hne, ?_, hfr5, by simp [g0], by simp [g2], by simp⟩
    · unfold stepN; split <;> omega
    · simp; unfold stepN; split <;> omega
    · rw [z3]
      cases p.is j [44] <;> simp [stepN]
    · have := O6.fwd F7 (fun y hy q => by simp at q; have := hfr5 y hy; omega)
      simpa using this
  | false =>
   rw [if_neg (by simp)] at z3
   rw [z3, show elsQ p (.ok (es, i)) = withinQ p es (whereF p i) from rfl]
   simp [g0, g2, g3]
   refine PutA_of (may_ok H2 hw2 [119, 104, 101, 114, 101]) ?_
   rintro _ h3 ⟨rfl, H3, F3⟩
   have FT3 := F2.trans F3
   have a3 := F3.arr a2 hne
   have O3 := O2.fwd F3 (fun y hy q => by simp at q; have := hfr y hy; omega)
   obtain ⟨R2, hR2⟩ : ∃ R2, R2 = whereF p i := ⟨_, rfl⟩
   rw [← hR2]
   simp [g0, g2]
   refine Run_loop (ClI h P h.objs.length p es ev R2) (n := p.ts.length + 1) ⟨stepN (p.is i [119, 104, 101, 114, 101]) i, [], .full [], fr, [], p.is i [119, 104, 101, 114, 101], by omega, by simp, ?_, H3, FT3, a3, O3, fun y hy => ⟨hfr y hy, by simp⟩, .nil, by simp, by simp, by simp [g0], by simp [g2], by simp⟩ ?_
   · rw [hR2]
     unfold whereF
     cases p.is i [119, 104, 101, 114, 101] <;> rfl
   rintro z f h4 ⟨k, cs, cv, f1, f2, more, z1, z2, z3, H4, F4, a4, O4, hf1, O5, hf2, hrows, g0, g2, g4⟩
   have l4 := F4.limlen l0
   have hw4 : h4.lim ≤ P := by rw [F4.lim]; exact hw
   have lB4 : h4.lim ≤ h.objs.length := by rw [F4.lim]; exact l0
   have hk4 := H4.le
   cases more with
   | true =>
    obtain ⟨z', rfl⟩ : ∃ z', z = z' + 1 := ⟨z - 1, by omega⟩
    rw [if_pos rfl, cndsL] at z3
    have veq := (View.own O5).eqb
    simp [g0, g2, g4, a4, act]
    refine PutC_of (cond_ok H4 hw4) ?_
    rintro v h5 O
    have FT5 := F4.trans O.1
    have a5 := O.1.arr a4 hne
    cases he : condF p k with
    | error e =>
     rw [he] at O z3
     obtain ⟨a, e⟩ := e
     obtain rfl : v = pErr a e := O.2
     simp [a5, veq, pErr, pv, Ends]
     rw [Hp.back_of FT5.lim, z3]
     exact ⟨FT5, rfl⟩
    | ok q =>
     obtain ⟨c, j⟩ := q
     have hlt := condF_lt he
     rw [he] at O z3
     simp only at z3
     obtain ⟨F5, x, rfl, H5, lv, rv, rfl, ⟨fl, OL, hfl⟩, ⟨fr', OR, hfr'⟩⟩ := O
     have l5 := FT5.limlen l0
     have hj5 := H5.le
     have vol := (View.own OL).one
     have vcl := (View.own OL).cells
     have vor := (View.own OR).one
     have vcr := (View.own OR).cells
     have ltf2 := O5.lt
     have ltf1 := O4.lt
     have hB4 : h.objs.length < h4.objs.length := arr_lt a4
     have O5 := O5.fwd F5 (fun y hy q => by simp at q; have := hf2 y hy; omega)
     have O4 := O4.fwd F5 (fun y hy q => by simp at q; have := hf1 y hy; omega)
     have hrows5 : ∀ c ∈ cs, Rows2 h5 h.objs.length f2 c := fun c hc => (hrows c hc).fwd F5 (fun y hy => .inl (by simp at hy; omega))
     have hnew : Rows2 h5 h.objs.length f2 ⟨c.1, c.2.1, c.2.2, lv, rv⟩ := ⟨fl, fr', OL, OR, fun y hy => ⟨by have := hfl y hy; omega, fun e => by have := hfl y hy; have := ltf2 y e; omega⟩, fun y hy => ⟨by have := hfr' y hy; omega, fun e => by have := hfr' y hy; have := ltf2 y e; omega⟩⟩
     simp [a5, veq, ones, lk l5, vol, vcl, vor, vcr]
     obtain ⟨Y, eY⟩ : ∃ Y, Y = h5.new (.cells ⟨0, 3, true, 0, [[eI c.1, lv, rv]]⟩) := ⟨_, rfl⟩
     have FY : Fwd [] h5 Y := by rw [eY]; exact (Fwd.refl _ _).new _
     have y1 : Y.arr h5.objs.length 0 = some ⟨0, 3, true, 0, [[eI c.1, lv, rv]]⟩ := by rw [eY]; simp
     rw [← eY]
     clear eY
     have O6 := O5.fwd FY (by simp)
     refine PutA_of (O6.append (ys := [[eI c.1, lv, rv]]) (by simp [elsOf, y1]) (by simp; omega) (FY.limlen l5)) ?_
     rintro v6 h6 ⟨f6, O7, F6, G6⟩
     have nB : h.objs.length ∉ f2 := fun q => by have := hf2 _ q; omega
     have nP : P ∉ f2 := fun q => by have := hf2 _ q; omega
     have a6 := F6.arr (FY.arr a5 (by simp)) nB
     have H6 := (H5.fwd FY (by simp)).fwd F6 nP
     have hf6 : ∀ y ∈ f6, h.objs.length < y := fun y hy => by
      rcases G6 y hy with q | q
      · exact hf2 y q
      · have := FY.len; have := arr_lt a5; omega
     have O8 := (O4.fwd FY (by simp)).fwd F6 (fun y hy => (hf1 y hy).2)
     have hrowsY : ∀ d ∈ cs ++ [⟨c.1, c.2.1, c.2.2, lv, rv⟩], Rows2 h6 h.objs.length f6 d := fun d hd => by
      have : Rows2 h5 h.objs.length f2 d := by
       rcases List.mem_append.1 hd with q | q
       · exact hrows5 d q
       · simp at q; subst q; exact hnew
      have := (this.fwd FY (by simp))
      obtain ⟨gl, gr, G1, G2, q1, q2⟩ := this
      refine ⟨gl, gr, G1.fwd F6 (fun y hy => (q1 y hy).2), G2.fwd F6 (fun y hy => (q2 y hy).2), fun y hy => ⟨(q1 y hy).1, fun e => ?_⟩, fun y hy => ⟨(q2 y hy).1, fun e => ?_⟩⟩
      · rcases G6 y e with z | z
        · exact (q1 y hy).2 z
        · have := G1.lt y hy; omega
      · rcases G6 y e with z | z
        · exact (q2 y hy).2 z
        · have := G2.lt y hy; omega
     have hf1' : ∀ y ∈ f1, h.objs.length < y ∧ y ∉ f6 := fun y hy => ⟨(hf1 y hy).1, fun e => by
      rcases G6 y e with z | z
      · exact (hf1 y hy).2 z
      · have := ltf1 y hy; have := FY.len; have := F5.len; omega⟩
     have FT6 : Fwd [P] h h6 := (FT5.trans (FY.mono (by simp))).trans' F6 (fun y hy => .inr (by have := hf2 y hy; omega))
     have lt6 := arr_lt a6
     have lB6 : h6.lim ≤ h.objs.length := by rw [FT6.lim]; exact l0
     have vo6 := (View.own O7).one
     have vc6 := (View.own O7).cells
     simp [g0, g2, a6, vo6, vc6, lt6, lB6]
     obtain ⟨Z, eZ⟩ : ∃ Z, Z = h6.setArr h.objs.length ⟨0, 4, true, 0, [[ev, v6, eI 0, eB false]]⟩ := ⟨_, rfl⟩
     have FZ : Fwd [h.objs.length] h6 Z := by rw [eZ]; exact (Fwd.refl _ _).set _ (.inl (by simp))
     have z1' : Z.arr h.objs.length 0 = some ⟨0, 4, true, 0, [[ev, v6, eI 0, eB false]]⟩ := by rw [eZ]; simp [lt6]
     rw [← eZ]
     clear eZ
     have HZ := H6.fwd FZ (by simp; omega)
     have FTZ : Fwd [P] h Z := FT6.trans' FZ (fun y hy => .inr (by simp at hy; omega))
     have hwZ : Z.lim ≤ P := by rw [FTZ.lim]; exact hw
     have O9 := O7.fwd FZ (fun y hy q => by simp at q; have := hf6 y hy; omega)
     have O10 := O8.fwd FZ (fun y hy q => by simp at q; have := hf1 y hy; omega)
     refine PutA_of (may_ok HZ hwZ [97, 110, 100]) ?_
     rintro _ h7 ⟨rfl, H7, F7⟩
     have nP7 : ∀ y, h.objs.length < y → y ∉ [P] := fun y hy q => by simp at q; omega
     simp
     refine ⟨z', by omega, stepN (p.is j [97, 110, 100]) j, cs ++ [⟨c.1, c.2.1, c.2.2, lv, rv⟩], v6, f1, f6, p.is j [97, 110, 100], ?_, ?_, ?_, H7, FTZ.trans F7, F7.arr z1' hne, O10.fwd F7 (fun y hy => nP7 y (hf1 y hy).1), hf1', ?_, hf6, fun d hd => ((hrowsY d hd).fwd FZ (fun y hy => .inl (by simp at hy; omega))).fwd F7 (fun y hy => .inl (by simp at hy; omega)), by simp [g0], by simp [g2], by simp⟩
     · unfold stepN; split <;> omega
     · simp; unfold stepN; split <;> omega
     · rw [z3]
       cases p.is j [97, 110, 100] <;> simp [stepN, Cond.tri]
     · have := O9.fwd F7 (fun y hy => nP7 y (hf6 y hy))
       simpa [Cond.cells] using this
   | false =>
    rw [if_neg (by simp)] at z3
    simp [g0, g2, g4]
    rw [z3]
    have b4 : Bun h.objs.length es cs ev cv h4 := ⟨f1, f2, O4, fun y hy => (hf1 y hy).1, O5, hf2, hrows⟩
    have ids : ∀ y ∈ [P], y ≤ h.objs.length := fun y hy => by simp at hy; omega
    refine PutA_of (may_ok H4 hw4 [119, 105, 116, 104, 105, 110]) ?_
    rintro _ h5 ⟨rfl, H5, F5⟩
    have FT5 := F4.trans F5
    have a5 := F5.arr a4 hne
    have b5 := b4.fwd F5 ids
    simp [act]
    refine PutA_of (must_ok H5 (p.is k [119, 105, 116, 104, 105, 110])) ?_
    rintro _ h6 ⟨rfl, e6⟩
    rw [e6]
    cases hwi : p.is k [119, 105, 116, 104, 105, 110] with
    | false =>
     simp [pErr, pv, Ends, stepN]
     rw [Hp.back_of FT5.lim]
     exact ⟨FT5, by simp [withinQ, hwi, pErr, pv]⟩
    | true =>
     rw [hwi] at H5
     have hs1 : stepN true k = k + 1 := rfl
     rw [hs1] at H5
     have hw5 : h5.lim ≤ P := by rw [FT5.lim]; exact hw
     simp [act]
     refine PutA_of (kind_ok H5 hw5 3) ?_
     rintro v h7 O
     have FT7 := FT5.trans O.1
     have hwq : withinQ p es (.ok (cs.map Cond.tri, k)) = match kindF p (k + 1) 3 with
      | .error e => .error e
      | .ok (t, k) => tailF p es (cs.map Cond.tri) t.n k := by
      simp only [withinQ, hwi, if_true]
     rw [hwq]
     clear hwq
     cases hr : kindF p (k + 1) 3 with
     | error e =>
      rw [hr] at O
      obtain ⟨a, e⟩ := e
      obtain rfl : v = pErr a e := O.2
      simp [pErr, pv, Ends]
      rw [Hp.back_of FT7.lim]
      exact ⟨FT7, rfl⟩
     | ok q =>
      obtain ⟨t, m⟩ := q
      rw [hr] at O
      obtain ⟨F7, x, rfl, H7, rfl⟩ := O
      have a7 := F7.arr a5 hne
      have b7 := b5.fwd F7 ids
      have lt7 := arr_lt a7
      have lB7 : h7.lim ≤ h.objs.length := by rw [FT7.lim]; exact l0
      obtain ⟨vo1, vc1, vo2, vc2⟩ := b7.vals
      simp [Tok.cells, fgetAt, g0, g2, a7, lt7, lB7, vo1, vc1, vo2, vc2]
      obtain ⟨Y, eY⟩ : ∃ Y, Y = h7.setArr h.objs.length ⟨0, 4, true, 0, [[ev, cv, eI t.n, eB false]]⟩ := ⟨_, rfl⟩
      have FY : Fwd [h.objs.length] h7 Y := by rw [eY]; exact (Fwd.refl _ _).set _ (.inl (by simp))
      have y1 : Y.arr h.objs.length 0 = some ⟨0, 4, true, 0, [[ev, cv, eI t.n, eB false]]⟩ := by rw [eY]; simp [lt7]
      rw [← eY]
      clear eY
      have hB : ∀ y ∈ [h.objs.length], y ≤ h.objs.length := fun y hy => by simp at hy; omega
      have HY := H7.fwd FY (by simp; omega)
      have bY := b7.fwd FY hB
      have FTY : Fwd [P] h Y := FT7.trans' FY (fun y hy => .inr (by simp at hy; omega))
      have hwY : Y.lim ≤ P := by rw [FTY.lim]; exact hw
      refine PutA_of (may_ok HY hwY [98, 121]) ?_
      rintro _ h8 ⟨rfl, H8, F8⟩
      have FT8 := FTY.trans F8
      have a8 := F8.arr y1 hne
      have b8 := bY.fwd F8 ids
      have lt8 := arr_lt a8
      have lB8 : h8.lim ≤ h.objs.length := by rw [FT8.lim]; exact l0
      simp [g2, a8, lt8, lB8, vo1, vc1, vo2, vc2]
      obtain ⟨Z, eZ⟩ : ∃ Z, Z = h8.setArr h.objs.length ⟨0, 4, true, 0, [[ev, cv, eI t.n, eB (p.is m [98, 121])]]⟩ := ⟨_, rfl⟩
      have FZ : Fwd [h.objs.length] h8 Z := by rw [eZ]; exact (Fwd.refl _ _).set _ (.inl (by simp))
      have z1' : Z.arr h.objs.length 0 = some ⟨0, 4, true, 0, [[ev, cv, eI t.n, eB (p.is m [98, 121])]]⟩ := by rw [eZ]; simp [lt8]
      rw [← eZ]
      clear eZ
      have HZ := H8.fwd FZ (by simp; omega)
      have bZ := b8.fwd FZ hB
      have FTZ : Fwd [P] h Z := FT8.trans' FZ (fun y hy => .inr (by simp at hy; omega))
      have hwZ : Z.lim ≤ P := by rw [FTZ.lim]; exact hw
      cases hby : p.is m [98, 121] with
      | false =>
       rw [hby] at HZ z1'
       have HZ : Par Z P p m 0 := HZ
       simp [act]
       refine PutA_of (must_ok HZ true) ?_
       rintro _ h11 ⟨rfl, e11⟩
       rw [e11]
       simp [g0, g2]
       have aE := HZ.ar
       have ltE := arr_lt z1'
       have lBE : Z.lim ≤ h.objs.length := by rw [FTZ.lim]; exact l0
       have leE := HZ.le
       simp [aE, (p.view Z).len, act]
       have htl : tailF p es (cs.map Cond.tri) t.n m = (if m = p.ts.length then .ok ((es, cs.map Cond.tri, t.n, false), m) else .error (p.at m, 11)) := by simp [tailF, stepN, hby]
       rw [htl]
       by_cases hend : ((m : Int)) = (p.ts.length : Int)
       · rw [if_pos (show m = p.ts.length by omega)]
         simp only [hend, decide_true]
         refine PutA_of (must_ok HZ true) ?_
         rintro _ h12 ⟨rfl, e12⟩
         rw [e12]
         simp [z1', ltE, lBE, vo1, vc1, vo2, vc2, ones, Ends]
         rw [Hp.back_of FTZ.lim]
         obtain ⟨W, eW⟩ : ∃ W, W = Z.setArr h.objs.length ⟨0, 4, true, 0, [[ev, cv, eI t.n, eB false]]⟩ := ⟨_, rfl⟩
         have FW : Fwd [h.objs.length] Z W := by rw [eW]; exact (Fwd.refl _ _).set _ (.inl (by simp))
         rw [← eW]
         have bW := bZ.fwd FW hB
         refine ⟨FTZ.trans' FW (fun y hy => .inr (by simp at hy; omega)), ?_⟩
         exact ⟨_, rfl, HZ.fwd FW (by simp; omega), bW.qok t.n false⟩
       · rw [if_neg (by omega)]
         simp only [hend, decide_false]
         refine PutA_of (must_ok HZ false) ?_
         rintro _ h12 ⟨rfl, e12⟩
         rw [e12]
         simp [pErr, pv, Ends]
         rw [Hp.back_of FTZ.lim]
         exact ⟨FTZ, rfl⟩
      | true =>
       rw [hby] at HZ z1'
       have HZ : Par Z P p (m + 1) 0 := HZ
       simp [g0]
       refine PutA_of (may_ok HZ hwZ [107, 101, 121]) ?_
       rintro _ h10 ⟨rfl, H10, F10⟩
       have FT10 := FTZ.trans F10
       have a10 := F10.arr z1' hne
       have b10 := bZ.fwd F10 ids
       simp [act]
       refine PutA_of (must_ok H10 (p.is (m + 1) [107, 101, 121])) ?_
       rintro _ h11 ⟨rfl, e11⟩
       rw [e11]
       cases hky : p.is (m + 1) [107, 101, 121] with
       | false =>
        simp [pErr, pv, Ends, stepN]
        rw [Hp.back_of FT10.lim]
        refine ⟨FT10, ?_⟩
        rw [show tailF p es (cs.map Cond.tri) t.n m = .error (p.at (m + 1), 11) from by simp [tailF, stepN, hby, hky]]
        rfl
       | true =>
        rw [hky] at H10
        have H10 : Par h10 P p (m + 2) 0 := H10
        simp [g0, g2]
        have aE := H10.ar
        have ltE := arr_lt a10
        have lBE : h10.lim ≤ h.objs.length := by rw [FT10.lim]; exact l0
        have leE := H10.le
        simp [aE, (p.view h10).len, act]
        have htl : tailF p es (cs.map Cond.tri) t.n m = (if (m + 2) = p.ts.length then .ok ((es, cs.map Cond.tri, t.n, true), (m + 2)) else .error (p.at (m + 2), 11)) := by simp [tailF, stepN, hby, hky]
        rw [htl]
        by_cases hend : ((m : Int) + 2) = (p.ts.length : Int)
        · rw [if_pos (show m + 2 = p.ts.length by omega)]
          simp only [hend, decide_true]
          refine PutA_of (must_ok H10 true) ?_
          rintro _ h12 ⟨rfl, e12⟩
          rw [e12]
          simp [a10, ltE, lBE, vo1, vc1, vo2, vc2, ones, Ends]
          rw [Hp.back_of FT10.lim]
          obtain ⟨W, eW⟩ : ∃ W, W = h10.setArr h.objs.length ⟨0, 4, true, 0, [[ev, cv, eI t.n, eB true]]⟩ := ⟨_, rfl⟩
          have FW : Fwd [h.objs.length] h10 W := by rw [eW]; exact (Fwd.refl _ _).set _ (.inl (by simp))
          rw [← eW]
          have bW := b10.fwd FW hB
          refine ⟨FT10.trans' FW (fun y hy => .inr (by simp at hy; omega)), ?_⟩
          exact ⟨_, rfl, H10.fwd FW (by simp; omega), bW.qok t.n true⟩
        · rw [if_neg (by omega)]
          simp only [hend, decide_false]
          refine PutA_of (must_ok H10 false) ?_
          rintro _ h12 ⟨rfl, e12⟩
          rw [e12]
          simp [pErr, pv, Ends]
          rw [Hp.back_of FT10.lim]
          exact ⟨FT10, rfl⟩
end Dk.M
