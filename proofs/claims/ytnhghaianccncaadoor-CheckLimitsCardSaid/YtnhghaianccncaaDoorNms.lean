/- check.Names: the names of a condition. -/
import Derived.Test.YtnhghaianccncaaDoorPur
set_option linter.unusedVariables false
set_option linter.unusedSimpArgs false
set_option linter.unusedSectionVars false
namespace Dk.L
open Go Dk
variable [Mx]
theorem grow_ok {h : Hp} {n : Nat} (hn : n < 2000000) (hl : h.lim ≤ h.objs.length) : WA (C0 n_slices_Grow [.full [], eI n] h) fun v h' => ∃ fp, Own h' 5 true v [] fp ∧ Fwd [] h h' ∧ Grown [] h fp := by
 refine call_W noExt_mono (f := n_slices_Grow) rfl rfl ?_
 have hp : ¬ (n : Int) < 0 := by omega
 have w : IntKind.i64.wrap (n : Int) = n := wrap64 (by omega) (by omega)
 have w0 : IntKind.i64.wrap 0 = 0 := by decide
 simp [hp, w, w0]
 have F0 : Fwd [] h (h.new (.cells ⟨0, 5, true, 0, []⟩)) := (Fwd.refl _ _).new _
 by_cases hz : n = 0
 · subst hz
   simp [Ends]
   exact ⟨[], .nil, F0, fun y hy => by cases hy⟩
 · have hz' : 0 < n := by omega
   simp [hz', act, appendZ, appendEls, sliceOf, bounds, upper, lower, bound, sized, sliceEls]
   rw [Run_act (hk := rfl)]
   have e2 : ¬ (List.replicate n [eI 0, eI 0, EV.p (.str (bs [])), eI 0, eI 0]).isEmpty = true := by simp [hz]
   have e3 : n * 48 ≤ 140737488355328 := by omega
   simp [act, appendZ, appendEls, sized, hz, e3, sliceOf, bounds, upper, lower, bound]
   have F1 : Fwd [] h ((h.new (.cells ⟨0, 5, true, 0, []⟩)).new (.cells ⟨0, 5, true, 0, List.replicate n [eI 0, eI 0, .p (.str (bs [])), eI 0, eI 0]⟩)) := F0.new _
   refine ⟨by simp, _, rfl, ?_⟩
   show ∃ fp, Own (Hp.back ((h.new _).new _) h.lim) 5 true (.arr (h.objs.length + 1) 0 5 0 0 false) [] fp ∧ Fwd [] h (Hp.back ((h.new _).new _) h.lim) ∧ _
   rw [F1.back]
   refine ⟨[h.objs.length + 1], ?_, F1, fun y hy => .inr (by simp at hy; omega)⟩
   have := Own.arr (h := (h.new (.cells ⟨0, 5, true, 0, []⟩)).new (.cells ⟨0, 5, true, 0, List.replicate n [eI 0, eI 0, .p (.str (bs [])), eI 0, eI 0]⟩)) (id := h.objs.length + 1) (g := 0) (sz := 5) (ag := true) (off := 0) (len := 0) (frz := 0) (f := false) (E := List.replicate n [eI 0, eI 0, .p (.str (bs [])), eI 0, eI 0]) (by simp) (by simp) (by omega) (by have := F1.lim; omega)
   simpa using this
structure CaI (X : Hp) (av : EV) (l r : List Code) (z : Nat) (f : Fr) (h' : Hp) : Prop where
 hp : h' = X
 g0 : f.get 0 = av
 g9 : f.get 9 = av
 g10 : f.get 10 = eI 2
 at0 : (z = 2 ∧ f.get 11 = eI 0 ∧ f.get 3 = eI 0) ∨ (z = 1 ∧ f.get 11 = eI 1 ∧ f.get 3 = eI l.length) ∨ (z = 0 ∧ f.get 11 = eI 2 ∧ f.get 3 = eI ((l.length : Int) + r.length))
structure CaJ (X : Hp) (av : EV) (l r : List Code) (z : Nat) (f : Fr) (h' : Hp) : Prop where
 g25 : f.get 25 = av
 g26 : f.get 26 = eI 2
 fw : Fwd [] X h'
 at0 : (z = 2 ∧ f.get 27 = eI 0 ∧ ∃ fp, Own h' 5 true (f.get 6) [] fp ∧ Grown [] X fp) ∨ (z = 1 ∧ f.get 27 = eI 1 ∧ ∃ fp, Own h' 5 true (f.get 6) (l.map Code.cells) fp ∧ Grown [] X fp) ∨ (z = 0 ∧ f.get 27 = eI 2 ∧ ∃ fp, Own h' 5 true (f.get 6) ((l ++ r).map Code.cells) fp ∧ Grown [] X fp)
theorem concat_ok {h : Hp} {av lv rv : EV} {l r : List Code} (A : View h 1 av [[lv], [rv]]) (L : View h 5 lv (l.map Code.cells)) (R : View h 5 rv (r.map Code.cells)) (hlen : l.length < 1000000 ∧ r.length < 1000000) (hl : h.lim ≤ h.objs.length) :
 ∃ w, Ls w ((l ++ r).map Code.pd) ∧ C0 n_slices_Concat [av] h = some (w, h) := by
 refine call_locSX noExt_mono (f := n_slices_Concat) rfl rfl (fun v e => by rcases e with rfl | rfl <;> rfl) fun h0 e0 el => ?_
 have P0 : Pfx h h0 := .of e0
 have hl : h0.lim ≤ h0.objs.length := by omega
 obtain ⟨a1, b1, c1⟩ := A.get1 (i := 0) rfl
 obtain ⟨a2, b2, c2⟩ := A.get1 (i := 1) rfl
 have b1 : indexAddr 1 av (eI 0) = some a1 := b1
 have b2 : indexAddr 1 av (eI 1) = some a2 := b2
 have w3 : ∀ i : Nat, i < 2000000 → IntKind.i64.wrap ((i : Int) + 1) = (i : Int) + 1 := fun i hi => wrap64 (by omega) (by omega)
 have wl : IntKind.i64.wrap (l.length : Int) = l.length := wrap64 (by omega) (by omega)
 have wlr : IntKind.i64.wrap ((l.length : Int) + r.length) = (l.length : Int) + r.length := wrap64 (by omega) (by omega)
 simp [A.len]
 obtain ⟨X, eX⟩ : ∃ X, X = h0.new (.cells ⟨0, 5, true, 0, []⟩) := ⟨_, rfl⟩
 have FX : Fwd [] h0 X := by rw [eX]; exact (Fwd.refl _ _).new _
 rw [← eX]
 clear eX
 have hlX := FX.limlen hl
 have c1X := c1 X (P0.trans (pfx FX))
 have c2X := c2 X (P0.trans (pfx FX))
 refine Run_meet (k1 := [_, _]) (fun f h3 => h3 = X ∧ f.get 0 = av ∧ f.get 3 = eI ((l.length : Int) + r.length)) ?_ ?_
 · refine Run_loop (CaI X av l r) (n := 2) ⟨rfl, by simp, by simp, by simp, .inl ⟨rfl, by simp, by simp⟩⟩ ?_
   rintro z f h' ⟨e, g0, g9, g10, (⟨rfl, g11, g3⟩ | ⟨rfl, g11, g3⟩ | ⟨rfl, g11, g3⟩)⟩
   · subst e
     have nl : ¬ (l.length : Int) < 0 := by omega
     have w01 : IntKind.i64.wrap 1 = 1 := by decide
     simp [g0, g9, g10, g11, g3, b1, c1X, L.len, wl, nl, w01]
     exact ⟨1, by omega, rfl, by simp [g0], by simp [g9], by simp [g10], .inr (.inl ⟨rfl, by simp, by simp⟩)⟩
   · subst e
     have nl : ¬ (l.length : Int) + r.length < 0 := by omega
     have w01 : IntKind.i64.wrap 2 = 2 := by decide
     simp [g0, g9, g10, g11, g3, b2, c2X, R.len, wlr, nl, w01]
     exact ⟨rfl, by simp [g0], by simp [g9], by simp [g10], .inr (.inr ⟨rfl, by simp, by simp⟩)⟩
   · simp [g0, g9, g10, g11, g3, JoinQ_normal, e]
 rintro f2 h2 ⟨rfl, g0, g3⟩
 have hs : ((l.length : Int) + r.length) = ((l.length + r.length : Nat) : Int) := by omega
 rw [hs] at g3
 simp [g3]
 refine PutA_of (grow_ok (by omega) hlX) ?_
 rintro v h3 ⟨fp, O3, F3, G3⟩
 simp [g0, A.len]
 have P2 := P0.trans (pfx FX)
 have P3 := P2.trans (pfx F3)
 refine Run_loop (CaJ h2 av l r) (n := 2) ⟨by simp, by simp, F3, .inl ⟨rfl, by simp, fp, by simpa using O3, G3⟩⟩ ?_
 rintro z f h' ⟨k25, k26, F4, (⟨rfl, k27, fp4, O4, G4⟩ | ⟨rfl, k27, fp4, O4, G4⟩ | ⟨rfl, k27, fp4, O4, G4⟩)⟩
 · have P4 := P2.trans (pfx F4)
   have w01 : IntKind.i64.wrap 1 = 1 := by decide
   simp [k25, k26, k27, b1, c1 h' P4]
   refine PutA_of (O4.append (L.els h' P4) (by simp; omega) (F4.limlen hlX)) ?_
   rintro v5 h5 ⟨fp5, O5, F5, G5⟩
   simp [k27, w01]
   exact ⟨1, by omega, by simp [k25], by simp [k26], F4.trans' F5 (fun y hy => .inr ((G4 y hy).elim (fun q => by cases q) id)), .inr (.inl ⟨rfl, by simp, fp5, by simpa using O5, fun y hy => .inr (by
    rcases G5 y hy with q | q
    · rcases G4 y q with q | q
      · cases q
      · exact q
    · have := F4.len; omega)⟩)⟩
 · have P4 := P2.trans (pfx F4)
   have w01 : IntKind.i64.wrap 2 = 2 := by decide
   simp [k25, k26, k27, b2, c2 h' P4]
   refine PutA_of (O4.append (R.els h' P4) (by simp; omega) (F4.limlen hlX)) ?_
   rintro v5 h5 ⟨fp5, O5, F5, G5⟩
   simp [k27, w01]
   exact ⟨by simp [k25], by simp [k26], F4.trans' F5 (fun y hy => .inr ((G4 y hy).elim (fun q => by cases q) id)), .inr (.inr ⟨rfl, by simp, fp5, by simpa using O5, fun y hy => .inr (by
    rcases G5 y hy with q | q
    · rcases G4 y q with q | q
      · cases q
      · exact q
    · have := F4.len; omega)⟩)⟩
 · simp [k25, k26, k27]
   obtain ⟨w, os', e, hw, S⟩ := share_any (os := h'.objs) (lim := h'.lim) (own_shows (P := fun y => h2.objs.length ≤ y) (n := 7) O4 (fun y hy => (G4 y hy).elim (fun q => by cases q) id) (codes_all2 (l ++ r)))
   refine ⟨by simp, _, rfl, [w], os', ?_, ?_⟩
   · simp [shareVs, e]
   · rw [← List.map_append]; exact hw
theorem names_ok (c : Code) {h : Hp} : C0 n_check_names [.agg c.cells] h = some (eB (hasN c), h) := by
 refine call_loc noExt_mono (f := n_check_names) rfl rfl rfl fun h0 e0 el => ?_
 simp [Code.cells, ones]
 by_cases h8 : c.op = 8
 · simp [h8, Ends, hasN]
 · simp [h8, Ends, hasN]
structure NmI (c : Cond) (h X : Hp) (B : Nat) (w : EV) (z : Nat) (f : Fr) (h' : Hp) : Prop where
 ex : ∃ (i : Nat) (acc : List ByteArray) (m : NM) (fp : List Nat), i ≤ (c.l ++ c.r).length ∧ z = (c.l ++ c.r).length - i ∧ Fwd [] h h' ∧ f.get 3 = .map B ∧ f.get 15 = w ∧ f.get 16 = eI (c.l ++ c.r).length ∧ f.get 17 = eI i ∧
  h'.mapOf B = some (ent m) ∧ Keys m acc ∧ Own h' 1 false (f.get 4) (acc.map fun s => [.p (.str s)]) fp ∧ (∀ y ∈ fp, h.objs.length ≤ y ∧ y ≠ B) ∧ acc.length ≤ i ∧ nmsOf c = nmsF acc ((c.l ++ c.r).drop i)
theorem Names_ok {h : Hp} {c : Cond} (V : CondV h c) (hc : c.l.length < 1000000 ∧ c.r.length < 1000000) (hl : h.lim ≤ h.objs.length) :
 ∃ w, Ls w ((nmsOf c).map .str) ∧ C0 n_check_Names [.agg c.cells] h = some (w, h) := by
 refine call_locSX noExt_mono (f := n_check_Names) rfl rfl (fun v e => by rcases e with rfl | rfl <;> rfl) fun h0 e0 el => ?_
 have P0 : Pfx h h0 := .of e0
 have hl : h0.lim ≤ h0.objs.length := by omega
 simp [Cond.cells, ones, V.l.one, V.r.one, V.l.cells, V.r.cells]
 obtain ⟨X, eX⟩ : ∃ X, X = ((((h0.new (.cells ⟨0, 3, true, 0, [[eI c.op, c.lv, c.rv]]⟩)).new (.cells ⟨0, 1, false, 0, []⟩)).new (.map [])).new (.cells ⟨0, 1, false, 0, []⟩)).new (.cells ⟨0, 1, false, 0, [[c.lv], [c.rv]]⟩) := ⟨_, rfl⟩
 have FX : Fwd [] h0 X := by rw [eX]; exact (((((Fwd.refl _ _).new _).new _).new _).new _).new _
 have nX : X.objs.length = h0.objs.length + 5 := by rw [eX]; simp
 have x4 : X.arr (h0.objs.length + 4) 0 = some ⟨0, 1, false, 0, [[c.lv], [c.rv]]⟩ := by rw [eX]; simp
 have x3 : X.arr (h0.objs.length + 3) 0 = some ⟨0, 1, false, 0, []⟩ := by rw [eX]; simp
 have m0 : X.mapOf (h0.objs.length + 2) = some (ent []) := by rw [eX]; simp [ent]
 rw [← eX]
 clear eX
 have hlX := FX.limlen hl
 have lX := FX.lim
 have PX := P0.trans (pfx FX)
 have AV : View X 1 (.arr (h0.objs.length + 4) 0 1 0 2 true) [[c.lv], [c.rv]] := .arr (off := 0) x4 (by simp)
 obtain ⟨w, hw, ec⟩ := concat_ok AV (V.l.pfx PX) (V.r.pfx PX) hc hlX
 have W := fun h => hw.view (codes_sized (c.l ++ c.r)) h
 rw [codes_toEV] at W
 refine PutA_eq ec ?_
 generalize hL : c.l ++ c.r = L at *
 have hLn : L.length < 2000000 := by rw [← hL]; simp; omega
 simp [(W X).len]
 refine Run_loop (NmI c h0 X (h0.objs.length + 2) w) (n := L.length) ⟨0, [], [], [h0.objs.length + 3], by omega, by rw [hL]; rfl, FX, by simp, by simp, by rw [hL]; simp, by simp, m0, fun s => rfl, by simpa using Own.empty (hh := X) false x3 (by omega), fun y hy => by simp at hy; omega, by simp, by simp [nmsOf]⟩ ?_
 rintro z f1 h1 ⟨i, acc, m, fp, hi, hz, F1, g3, g15, g16, g17, mi, K, O, nfp, al, hs⟩
 rw [hL] at hi hz g16 hs
 have lm : h1.lim ≤ h1.objs.length := F1.limlen hl
 have ll : h1.lim = h0.lim := F1.lim
 have n1 := F1.len
 have mlt := map_lt mi
 by_cases hin : i < L.length
 · obtain ⟨e, hx⟩ : ∃ e, L[i]? = some e := ⟨_, List.getElem?_eq_getElem hin⟩
   have hd : L.drop i = e :: L.drop (i + 1) := by
    rw [List.drop_eq_getElem_cons hin]
    rw [List.getElem?_eq_getElem hin] at hx
    cases hx
    rfl
   rw [hd, nmsF] at hs
   obtain ⟨a, a1, a2⟩ := (W X).get (i := i) (el := e.cells) (by rw [List.getElem?_map, hx]; rfl) rfl
   have a2 : loadAt true 5 a h1 = some (.agg e.cells) := by
    obtain ⟨a', p1, p2⟩ := (W h1).get (i := i) (el := e.cells) (by rw [List.getElem?_map, hx]; rfl) rfl
    rw [a1] at p1
    cases p1
    exact p2 h1 (Pfx.refl _)
   simp [g3, g15, g16, g17, hin, a1, a2, Code.cells, ones, lm]
   have FY : Fwd [] h1 ((h1.new (.cells ⟨0, 5, true, 0, [[eI 0, eI 0, .p (.str (bs [])), eI 0, eI 0]]⟩)).setArr h1.objs.length ⟨0, 5, true, 0, [[eI e.op, eI e.n, .p (.str e.v), eI e.field, eI e.pos]]⟩) := ((Fwd.refl _ _).new _).set _ (.inr (by omega))
   have xY : ((h1.new (.cells ⟨0, 5, true, 0, [[eI 0, eI 0, .p (.str (bs [])), eI 0, eI 0]]⟩)).setArr h1.objs.length ⟨0, 5, true, 0, [[eI e.op, eI e.n, .p (.str e.v), eI e.field, eI e.pos]]⟩).arr h1.objs.length 0 = some ⟨0, 5, true, 0, [[eI e.op, eI e.n, .p (.str e.v), eI e.field, eI e.pos]]⟩ := by simp [Hp.arr_set]
   generalize (h1.new (.cells ⟨0, 5, true, 0, [[eI 0, eI 0, .p (.str (bs [])), eI 0, eI 0]]⟩)).setArr h1.objs.length ⟨0, 5, true, 0, [[eI e.op, eI e.n, .p (.str e.v), eI e.field, eI e.pos]]⟩ = Y at *
   have mY := FY.map mi (by simp)
   have OY := O.fwd FY (by simp)
   have nY := FY.len
   have lY := FY.lim
   have gg := ent_get mY e.v (eI 0)
   have Ke := K e.v
   have w3 : IntKind.i64.wrap ((i : Int) + 1) = (i : Int) + 1 := wrap64 (by omega) (by omega)
   have key : ∀ f2 : Fr, f2.get 3 = .map (h0.objs.length + 2) → f2.get 4 = f1.get 4 → f2.get 15 = w → f2.get 16 = eI L.length → f2.get 17 = eI i → (hasN e && !hasB e.v acc) = false →
    ∃ q, q < z ∧ NmI c h0 X (h0.objs.length + 2) w q (f2.put (some 17) (eI ((i : Int) + 1))) Y := fun f2 e3 e4 e15 e16 e17 hb =>
    ⟨L.length - (i + 1), by omega, i + 1, acc, m, fp, by rw [hL]; omega, by rw [hL], F1.trans FY, by simp [e3], by simp [e15], by simp [e16, hL], by simp, mY, K, by simpa [e4] using OY, nfp, by omega, by rw [hs, hb, hL]; simp⟩
   cases hf : findS e.v m with
   | none =>
    rw [hf] at gg Ke
    simp only [Option.isSome_none] at Ke
    simp [gg, xY, nl (arr_lt xY)]
    refine PutA_eq (names_ok e) ?_
    cases hb : hasN e with
    | false =>
     simp [g17, w3]
     exact key _ (by simp) (by simp) (by simp) (by simp) (by simp) (by simp [hb])
    | true =>
     have up := ent_upd mY e.v acc.length (by omega)
     have hne : ¬ h1.objs.length = h0.objs.length + 2 := by omega
     simp [xY, nl (arr_lt xY), OY.len, up, hne]
     have FZ : Fwd [h0.objs.length + 2] h1 ((Y.setMap (h0.objs.length + 2) (ent (setS e.v acc.length m))).new (.cells ⟨0, 1, false, 0, [[.p (.str e.v)]]⟩)) := ((FY.mono (by simp)).setMap _ (.inl (by simp))).new _
     have zZ : ((Y.setMap (h0.objs.length + 2) (ent (setS e.v acc.length m))).new (.cells ⟨0, 1, false, 0, [[.p (.str e.v)]]⟩)).arr Y.objs.length 0 = some ⟨0, 1, false, 0, [[.p (.str e.v)]]⟩ := by simp
     have mZ : ((Y.setMap (h0.objs.length + 2) (ent (setS e.v acc.length m))).new (.cells ⟨0, 1, false, 0, [[.p (.str e.v)]]⟩)).mapOf (h0.objs.length + 2) = some (ent (setS e.v acc.length m)) := by
      have q1 : ¬ h0.objs.length + 2 = Y.objs.length := by omega
      have q2 : h0.objs.length + 2 < Y.objs.length := by omega
      simp [q1, q2]
     generalize (Y.setMap (h0.objs.length + 2) (ent (setS e.v acc.length m))).new (.cells ⟨0, 1, false, 0, [[.p (.str e.v)]]⟩) = Z at *
     have OZ := O.fwd FZ (fun y hy q => by simp at q; exact (nfp y hy).2 q)
     have lZ := FZ.limlen lm
     have nZ := FZ.len
     refine PutA_of (OZ.append (ys := [[.p (.str e.v)]]) (by simp [elsOf, zZ]) (by simp; omega) lZ) ?_
     rintro v5 h5 ⟨fp5, O5, F5, G5⟩
     simp [g17, w3]
     have F15 : Fwd [] h0 h5 := by
      refine (F1.trans' FZ fun y hy => .inr ?_).trans' F5 fun y hy => .inr (nfp y hy).1
      simp at hy
      omega
     have hb2 : hasB e.v acc = false := by rw [← Ke]
     refine ⟨L.length - (i + 1), by omega, i + 1, acc ++ [e.v], setS e.v acc.length m, fp5, by rw [hL]; omega, by rw [hL], F15, by simp, by simp, by simp [hL], by simp, F5.map mZ (fun q => (nfp _ q).2 rfl), fun s => ?_, by simpa using O5, fun y hy => ?_, by simp; omega, by rw [hs, hb, hb2, hL]; simp⟩
     · rw [find_set]
       have := K s
       unfold hasB at this ⊢
       rw [List.any_append]
       by_cases h : s = e.v
       · simp [h]
       · rw [if_neg h, this]; simp [h]
     · rcases G5 y hy with q | q
       · exact nfp y q
       · omega
   | some k =>
    rw [hf] at gg Ke
    simp only [Option.isSome_some] at Ke
    simp [gg, xY, nl (arr_lt xY)]
    refine PutA_eq (names_ok e) ?_
    have : (hasN e && !hasB e.v acc) = false := by rw [← Ke]; simp
    cases hb : hasN e with
    | false =>
     simp [g17, w3]
     exact key _ (by simp) (by simp) (by simp) (by simp) (by simp) this
    | true =>
     simp [g17, w3]
     exact key _ (by simp) (by simp) (by simp) (by simp) (by simp) this
 · have hd : L.drop i = [] := List.drop_eq_nil_of_le (by omega)
   rw [hd, nmsF] at hs
   obtain ⟨w2, os', e2, hw2, S⟩ := share_any (os := h1.objs) (lim := h1.lim) (own_shows (P := fun y => h0.objs.length ≤ y) (n := 7) O (fun y hy => (nfp y hy).1) (strs_all2 acc))
   simp [g3, g15, g16, g17, hin]
   refine ⟨by simp, _, rfl, [w2], os', ?_, ?_⟩
   · simp [shareVs, e2]
   · rw [hs]; exact hw2
end Dk.L
