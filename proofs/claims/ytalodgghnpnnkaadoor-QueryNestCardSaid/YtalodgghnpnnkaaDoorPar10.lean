/- query.Parse, at D: any text. -/
import Derived.Test.YtalodgghnpnnkaaDoorPar9
import Derived.Test.YtalodgghnpnnkaaDoorName
set_option linter.unusedVariables false
set_option linter.unusedSimpArgs false
set_option linter.unusedSectionVars false
namespace Dk.M
open Go Dk
variable [Mx]
omit [Mx] in
theorem toks_len : ∀ (n a : Nat) (l : List UInt8), l.length ≤ n → ∀ t ∈ (toks a l).1, t.text.length ≤ l.length
 | _, a, [], _ => by simp [toks_nil]
 | 0, a, c :: r, h => by simp at h
 | n + 1, a, c :: r, h => by
  simp only [List.length_cons] at h
  by_cases hb : blankB c = true
  · rw [toks_blank a r hb]
    intro t ht
    have := toks_len n (a + 1) r (by omega) t ht
    simp only [List.length_cons]
    omega
  · have hb : blankB c = false := by simpa using hb
    cases ht : tokL (c :: r) with
    | none => rw [toks_none a hb ht]; simp
    | some q =>
     obtain ⟨k, m, x⟩ := q
     have hq := tokL_len ht
     simp only [List.length_cons] at hq
     rw [toks_some a hb ht]
     intro t hm
     rw [List.mem_cons] at hm
     rcases hm with rfl | hm
     · simp
       omega
     · have := toks_len n (a + m) ((c :: r).drop m) (by simp; omega) t hm
       simp at this
       simp only [List.length_cons]
       omega
omit [Mx] in
theorem lexR_mem {l : List UInt8} {t : Tok} (ht : t ∈ (lexR l).1) : t ∈ (toks 0 l).1 ∧ (lexR l).1.length ≤ 200 := by
 unfold lexR at ht ⊢
 split at ht
 · simp at ht
 · rename_i hn
   split at ht
   · simp at ht
   · rename_i h2
     rw [if_neg h2]
     exact ⟨ht, List.getElem?_eq_none_iff.1 hn⟩
omit [Mx] in
theorem lexR_big (l : List UInt8) : (lexR l).1.length ≤ 200 := by
 cases h : (lexR l).1 with
 | nil => simp
 | cons t r =>
  have := (lexR_mem (l := l) (t := t) (by rw [h]; simp)).2
  rwa [h] at this
def prsOf (l : List UInt8) (hl : l.length < 2 ^ 31) (w : EV) (hw : w = .p (.list ((lexR l).1.map Tok.pd)) ∨ w = .full ((lexR l).1.map Tok.pd)) : Prs :=
 ⟨(lexR l).1, w, l.length, hw, lexR_big l, fun t ht => ⟨Nat.lt_of_le_of_lt (toks_len l.length 0 l (Nat.le_refl _) t (lexR_mem ht).1) hl, fun hk => lexR_small t ht hk⟩⟩
def q0 : Q0 := ([], [], 0, false)
def parA (l : List UInt8) (p : Prs) : Q0 × Int × Int := if (lexR l).2.2 = 0 then (match queryF p with
 | .ok (q, _) => (q, l.length, 0)
 | .error (a, e) => (q0, a, e)) else (q0, (lexR l).2.1, (lexR l).2.2)
omit [Mx] in
theorem q0_ok (B : Nat) (h : Hp) : QOK B q0 (.agg [.full [], .full [], eI 0, eB false]) h :=
 ⟨.full [], .full [], [], [], [], rfl, .nil, by simp, .nil, by simp, rfl, by simp⟩
omit [Mx] in
theorem QOK.fwd {B : Nat} {q : Q0} {x : EV} {h h' : Hp} {ids : List Nat} (Q : QOK B q x h) (F : Fwd ids h h') (hi : ∀ y ∈ ids, y < B) : QOK B q x h' := by
 obtain ⟨ev, cv, cl, f1, f2, e, O1, q1, O2, q2, e2, r⟩ := Q
 refine ⟨ev, cv, cl, f1, f2, e, O1.fwd F (fun y hy e => by have := hi y e; have := q1 y hy; omega), q1, O2.fwd F (fun y hy e => by have := hi y e; have := q2 y hy; omega), q2, e2, fun c hc => ?_⟩
 obtain ⟨⟨fl, G1, s1⟩, ⟨fr, G2, s2⟩⟩ := r c hc
 exact ⟨⟨fl, G1.fwd F (fun y hy e => by have := hi y e; have := s1 y hy; omega), s1⟩, ⟨fr, G2.fwd F (fun y hy e => by have := hi y e; have := s2 y hy; omega), s2⟩⟩
omit [Mx] in
theorem QOK.mono {B B' : Nat} {q : Q0} {x : EV} {h : Hp} (Q : QOK B q x h) (hb : B' ≤ B) : QOK B' q x h := by
 obtain ⟨ev, cv, cl, f1, f2, e, O1, q1, O2, q2, e2, r⟩ := Q
 exact ⟨ev, cv, cl, f1, f2, e, O1, fun y hy => by have := q1 y hy; omega, O2, fun y hy => by have := q2 y hy; omega, e2, fun c hc => ⟨(r c hc).1.mono hb, (r c hc).2.mono hb⟩⟩
omit [Mx] in
theorem QOK.cells {B : Nat} {q : Q0} {x : EV} {h : Hp} (Q : QOK B q x h) : ∃ ev cv, x = .agg [ev, cv, eI q.2.2.1, eB q.2.2.2] ∧ ev.one = true ∧ cv.one = true := by
 obtain ⟨ev, cv, cl, f1, f2, e, O1, q1, O2, q2, e2, r⟩ := Q
 exact ⟨ev, cv, e, (View.own O1).one, (View.own O2).one⟩
theorem rec_no {h : Hp} (hl : h.lim ≤ h.objs.length) {a b c : EV} : WA (C0 n_Parse1_e [a, b, c, .p (.agg [])] h) fun v h' => Fwd [] h h' := by
 refine call_W noExt_mono (f := n_Parse1_e) rfl rfl ?_
 simp [lk hl, Ends]
 exact ((Fwd.refl [] h).new _).set _ (.inr (Nat.le_refl _))
theorem rec_yes {h : Hp} {B : Nat} {a b c : EV} {x y z : EV} {at_ e : Int} (hl : h.lim ≤ B) (h0 : h.arr B 0 = some ⟨0, 4, true, 0, [[x, y, z, a]]⟩) (h1 : h.arr (B + 1) 0 = some ⟨0, 1, false, 0, [[b]]⟩) (h2 : h.arr (B + 2) 0 = some ⟨0, 1, false, 0, [[c]]⟩) :
 WA (C0 n_Parse1_p [.ptr B 0 0 0, .ptr (B + 1) 0 0 0, .ptr (B + 2) 0 0 0, pv at_ e, .p (.agg [.bool false])] h) fun v h' => Fwd [B, B + 1, B + 2] h h' ∧ h'.arr B 0 = some ⟨0, 4, true, 0, [[.full [], .full [], eI 0, eB false]]⟩ ∧ h'.arr (B + 1) 0 = some ⟨0, 1, false, 0, [[eI at_]]⟩ ∧ h'.arr (B + 2) 0 = some ⟨0, 1, false, 0, [[eI e]]⟩ := by
 refine call_W noExt_mono (f := n_Parse1_p) rfl rfl ?_
 have t0 := arr_lt h0
 have t1 := arr_lt h1
 have t2 := arr_lt h2
 have hl' : h.lim ≤ h.objs.length := by omega
 have n1 : ∀ k, (h.objs.length = B + k) = (h.objs.length = B + k) := fun _ => rfl
 have m0 : (B = h.objs.length) = False := eq_false (by omega)
 have m1 : (B + 1 = h.objs.length) = False := eq_false (by omega)
 have m2 : (B + 2 = h.objs.length) = False := eq_false (by omega)
 have m0' : (h.objs.length = B) = False := eq_false (by omega)
 have m1' : (h.objs.length = B + 1) = False := eq_false (by omega)
 have m2' : (h.objs.length = B + 2) = False := eq_false (by omega)
 have g0 : (B < h.objs.length + 1) = True := eq_true (by omega)
 have g1 : (B + 1 < h.objs.length + 1) = True := eq_true (by omega)
 have g2 : (B + 2 < h.objs.length + 1) = True := eq_true (by omega)
 simp [pv, lk hl', lk hl, m0, m1, m2, m0', m1', m2', g0, g1, g2, h0, h1, h2, Ends]
 exact ((((((Fwd.refl _ h).new _).set _ (.inr (Nat.le_refl _))).set _ (.inl (by simp))).set _ (.inl (by simp))).set _ (.inl (by simp)))
theorem parse_ok (l : List UInt8) (hl : l.length < 2 ^ 31) (h : Hp) (hh : h.lim ≤ h.objs.length) :
 WA (C0 n_query_Parse [.p (.str (mkS l))] h) fun v h' => Fwd [] h h' ∧ ∃ p : Prs, p.ts = (lexR l).1 ∧ p.size = l.length ∧ ∃ x, v = .tup [x, eI (parA l p).2.1, eI (parA l p).2.2] ∧ QOK h.objs.length (parA l p).1 x h' := by
 refine call_W noExt_mono (f := n_query_Parse) rfl rfl ?_
 simp
 obtain ⟨X, eX⟩ : ∃ X, X = ((h.new (.cells ⟨0, 4, true, 0, [[.full [], .full [], eI 0, eB false]]⟩)).new (.cells ⟨0, 1, false, 0, [[eI 0]]⟩)).new (.cells ⟨0, 1, false, 0, [[eI 0]]⟩) := ⟨_, rfl⟩
 have FX : Fwd [] h X := by rw [eX]; exact (((Fwd.refl _ _).new _).new _).new _
 have nX : X.objs.length = h.objs.length + 3 := by rw [eX]; simp
 have x0 : X.arr h.objs.length 0 = some ⟨0, 4, true, 0, [[.full [], .full [], eI 0, eB false]]⟩ := by rw [eX]; simp
 have x1 : X.arr (h.objs.length + 1) 0 = some ⟨0, 1, false, 0, [[eI 0]]⟩ := by rw [eX]; simp
 have x2 : X.arr (h.objs.length + 2) 0 = some ⟨0, 1, false, 0, [[eI 0]]⟩ := by rw [eX]; simp
 rw [← eX]
 clear eX
 have lX := FX.limlen hh
 obtain ⟨_, ⟨w, rfl, hw⟩, hx⟩ := lex_ok l X lX (by omega)
 refine PutA_eq hx ?_
 have lB : X.lim ≤ h.objs.length := by rw [FX.lim]; exact hh
 have t0 := arr_lt x0
 have t1 := arr_lt x1
 have t2 := arr_lt x2
 obtain ⟨p, hp⟩ : ∃ p, p = prsOf l hl w hw := ⟨_, rfl⟩
 have hpt : p.ts = (lexR l).1 := by rw [hp]; rfl
 have hps : p.size = l.length := by rw [hp]; rfl
 have hpw : p.w = w := by rw [hp]; rfl
 simp [x0, x1, x2, t0, t1, t2, lk lB]
 obtain ⟨Y, eY⟩ : ∃ Y, Y = (X.setArr (h.objs.length + 1) ⟨0, 1, false, 0, [[eI (lexR l).2.1]]⟩).setArr (h.objs.length + 2) ⟨0, 1, false, 0, [[eI (lexR l).2.2]]⟩ := ⟨_, rfl⟩
 have nY : Y.objs.length = h.objs.length + 3 := by rw [eY]; simp; omega
 have FY0 : Fwd [h.objs.length + 1, h.objs.length + 2] X Y := by rw [eY]; exact ((Fwd.refl _ _).set _ (.inl (by simp))).set _ (.inl (by simp))
 have FY : Fwd [] h Y := FX.trans' FY0 (fun y hy => .inr (by simp at hy; omega))
 have y0 := FY0.arr x0 (by simp)
 have y1 : Y.arr (h.objs.length + 1) 0 = some ⟨0, 1, false, 0, [[eI (lexR l).2.1]]⟩ := by rw [eY]; simp [t1]
 have y2 : Y.arr (h.objs.length + 2) 0 = some ⟨0, 1, false, 0, [[eI (lexR l).2.2]]⟩ := by rw [eY]; simp [t2]
 by_cases he : (lexR l).2.2 = 0
 · have hpa : parA l p = match queryF p with
    | .ok (q, _) => (q, l.length, 0)
    | .error (a, e) => (q0, a, e) := by simp only [parA, he, if_true]
   simp [he]
   rw [he] at eY y2
   have e1 : (X.setArr (h.objs.length + 1) ⟨0, 1, false, 0, [[.p (.int .i64 (lexR l).2.1)]]⟩).setArr (h.objs.length + 2) ⟨0, 1, false, 0, [[.p (.int .i64 0)]]⟩ = Y := by rw [eY]
   rw [e1]
   clear e1 eY
   have wo : w.one = true := by rw [← hpw]; exact (p.view X).one
   have wc : w.cells = [w] := by rw [← hpw]; exact (p.view X).cells
   refine ⟨by simp [EV.eqb, EV.eqbs], ?_⟩
   simp [wo, wc, ones, act]
   obtain ⟨W, eW⟩ : ∃ W, W = Y.new (.cells ⟨0, 4, true, 0, [[w, eI 0, eI l.length, eI 0]]⟩) := ⟨_, rfl⟩
   have FW : Fwd [] Y W := by rw [eW]; exact (Fwd.refl _ _).new _
   have nW : W.objs.length = Y.objs.length + 1 := by rw [eW]; simp
   have w3 : W.arr Y.objs.length 0 = some ⟨0, 4, true, 0, [[w, eI 0, eI l.length, eI 0]]⟩ := by rw [eW]; simp
   have e2 : Y.new (.cells ⟨0, 4, true, 0, [[w, eI 0, .p (.int .i64 l.length), eI 0]]⟩) = W := by rw [eW]
   rw [e2]
   clear e2 eW
   have HP : Par W Y.objs.length p 0 0 := ⟨by rw [w3, hpw, hps]; rfl, by omega, by omega⟩
   have FhW := FY.trans FW
   have hwW : W.lim ≤ Y.objs.length := by rw [FhW.lim]; omega
   refine PutA_of (query_ok HP hwW) ?_
   rintro v h2 O
   have F2 : Fwd [] h h2 := FhW.trans' O.1 (fun y hy => .inr (by simp at hy; omega))
   have n0 : h.objs.length ∉ [Y.objs.length] := by simp; omega
   have n1 : h.objs.length + 1 ∉ [Y.objs.length] := by simp; omega
   have n2 : h.objs.length + 2 ∉ [Y.objs.length] := by simp; omega
   have u0 := O.1.arr (FW.arr y0 (by simp)) n0
   have u1 := O.1.arr (FW.arr y1 (by simp)) n1
   have u2 := O.1.arr (FW.arr y2 (by simp)) n2
   have lB2 : h2.lim ≤ h.objs.length := by rw [F2.lim]; exact hh
   cases hr : queryF p with
   | error e =>
    rw [hr] at O hpa
    obtain ⟨a, e⟩ := e
    obtain rfl : v = pErr a e := O.2
    simp [pErr]
    refine PutA_of (rec_yes lB2 u0 u1 u2) ?_
    rintro _ h3 ⟨F3, r0, r1, r2⟩
    have FT : Fwd [] h h3 := F2.trans' F3 (fun y hy => .inr (by simp at hy; omega))
    simp [r0, r1, r2, Ends]
    rw [Hp.back_of FT.lim]
    exact ⟨FT, p, hpt, hps, _, ⟨rfl, by rw [hpa], by rw [hpa]⟩, by rw [hpa]; exact q0_ok _ _⟩
   | ok q =>
    obtain ⟨q, j⟩ := q
    rw [hr] at O hpa
    obtain ⟨F1, x, rfl, H2, Q⟩ := O
    obtain ⟨ev, cv, rfl, o1, o2⟩ := Q.cells
    have s0 := arr_lt u0
    have s1 := arr_lt u1
    have s2 := arr_lt u2
    simp [u0, u1, u2, s0, s1, s2, lk lB2, ones, o1, o2]
    obtain ⟨V, eV⟩ : ∃ V, V = ((h2.setArr h.objs.length ⟨0, 4, true, 0, [[ev, cv, eI q.2.2.1, eB q.2.2.2]]⟩).setArr (h.objs.length + 1) ⟨0, 1, false, 0, [[eI l.length]]⟩).setArr (h.objs.length + 2) ⟨0, 1, false, 0, [[eI 0]]⟩ := ⟨_, rfl⟩
    have FV : Fwd [h.objs.length, h.objs.length + 1, h.objs.length + 2] h2 V := by rw [eV]; exact (((Fwd.refl _ _).set _ (.inl (by simp))).set _ (.inl (by simp))).set _ (.inl (by simp))
    have v0 : V.arr h.objs.length 0 = some ⟨0, 4, true, 0, [[ev, cv, eI q.2.2.1, eB q.2.2.2]]⟩ := by rw [eV]; simp [s0]
    have v1 : V.arr (h.objs.length + 1) 0 = some ⟨0, 1, false, 0, [[eI l.length]]⟩ := by rw [eV]; simp [s1]
    have v2 : V.arr (h.objs.length + 2) 0 = some ⟨0, 1, false, 0, [[eI 0]]⟩ := by rw [eV]; simp [s2]
    have e3 : ((h2.setArr h.objs.length ⟨0, 4, true, 0, [[ev, cv, eI q.2.2.1, eB q.2.2.2]]⟩).setArr (h.objs.length + 1) ⟨0, 1, false, 0, [[.p (.int .i64 l.length)]]⟩).setArr (h.objs.length + 2) ⟨0, 1, false, 0, [[.p (.int .i64 0)]]⟩ = V := by rw [eV]
    rw [e3]
    clear e3 eV
    have FTV : Fwd [] h V := F2.trans' FV (fun y hy => .inr (by simp at hy; omega))
    refine PutA_of (rec_no (FTV.limlen hh)) ?_
    rintro _ h3 F3
    have FT := FTV.trans F3
    have z0 := F3.arr v0 (by simp)
    have z1 := F3.arr v1 (by simp)
    have z2 := F3.arr v2 (by simp)
    simp [z0, z1, z2, Ends]
    rw [Hp.back_of FT.lim]
    have Q3 := ((Q.fwd FV (fun y hy => by simp at hy; omega)).fwd F3 (by simp)).mono (show h.objs.length ≤ W.objs.length by omega)
    exact ⟨FT, p, hpt, hps, _, ⟨rfl, by rw [hpa], by rw [hpa]⟩, by rw [hpa]; exact Q3⟩
 · have hpa : parA l p = (q0, (lexR l).2.1, (lexR l).2.2) := by simp only [parA, he, if_false]
   have t1' : h.objs.length + 1 < X.objs.length := t1
   simp [he, t0, t1, t2, x0, lk lB, ones, Ends]
   rw [Hp.back_of FX.lim]
   obtain ⟨V, eV⟩ : ∃ V, V = ((((X.setArr (h.objs.length + 1) ⟨0, 1, false, 0, [[eI (lexR l).2.1]]⟩).setArr (h.objs.length + 2) ⟨0, 1, false, 0, [[eI (lexR l).2.2]]⟩).setArr h.objs.length ⟨0, 4, true, 0, [[.full [], .full [], eI 0, eB false]]⟩).setArr (h.objs.length + 1) ⟨0, 1, false, 0, [[eI (lexR l).2.1]]⟩).setArr (h.objs.length + 2) ⟨0, 1, false, 0, [[eI (lexR l).2.2]]⟩ := ⟨_, rfl⟩
   have FV : Fwd [h.objs.length, h.objs.length + 1, h.objs.length + 2] X V := by rw [eV]; exact (((((Fwd.refl _ _).set _ (.inl (by simp))).set _ (.inl (by simp))).set _ (.inl (by simp))).set _ (.inl (by simp))).set _ (.inl (by simp))
   have FT : Fwd [] h V := FX.trans' FV (fun y hy => .inr (by simp at hy; omega))
   rw [eV] at FT
   exact ⟨FT, p, hpt, hps, _, ⟨rfl, by rw [hpa], by rw [hpa]⟩, by rw [hpa]; exact q0_ok _ _⟩
end Dk.M
