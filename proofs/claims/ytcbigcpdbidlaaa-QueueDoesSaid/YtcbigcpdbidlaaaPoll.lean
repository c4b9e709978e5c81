/- The desk's matches, asked for. -/
import Derived.Test.YtcbigcpdbidlaaaDesk
set_option linter.unusedVariables false
set_option linter.unusedSimpArgs false
set_option linter.unusedSectionVars false
namespace Dk.Q
open Go Dk

theorem refs_els (l : List (Int × Int)) (h : Hp) : elsOf 2 (.p (.list (l.map rPD))) h = some (refCells l) := by
  have e : sized 2 (l.map rPD) = true := List.all_eq_true.2 fun x hx => by
    obtain ⟨r, _, rfl⟩ := List.mem_map.1 hx
    rfl
  simp only [elsOf, e, if_true, List.map_map, refCells]
  rfl

def setCells (l : List Fnd) : List (List EV) := l.map fun f => [.p (.list f.sets)]
def allRefs (l : List Fnd) : List (Int × Int) := l.flatMap Fnd.refs

structure PLoop (b N : Nat) (h1 : Hp) (p : Nat) (w : EV) (row : List Fnd) (i : Nat) (f : Fr) (h' : Hp) : Prop where
  g4 : f.get 4 = .ptr b 0 0 0
  g6 : f.get 6 = .ptr p 0 0 0
  g7 : f.get 7 = .ptr h1.objs.length 0 0 0
  g9 : f.get 9 = eI N
  g55 : f.get 55 = w
  g56 : f.get 56 = eI N
  g57 : f.get 57 = eI i
  fw : Fwd [] h1 h'
  len : h1.objs.length + 2 ≤ h'.objs.length
  own : ∃ m r fm fr, f.get 8 = r ∧ h'.arr h1.objs.length 0 = some ⟨0, 3, true, 0, [[eI 0, eI 0, m]]⟩ ∧ Own h' 1 false m (setCells (row.take i)) fm ∧ Own h' 2 true r (refCells (allRefs (row.take i))) fr ∧
    (∀ x ∈ fm, h1.objs.length < x) ∧ (∀ x ∈ fr, h1.objs.length < x) ∧ ∀ x ∈ fr, x ∉ fm

theorem poll_some {h : Hp} {id idm : Nat} {a b : List (Int × Line)} {pa pb : List (Nat × List Nat)} {k : Int} {l : Line} {p : Nat} {fp : List Nat} {cf : Conf} (H : DeskAt h id idm (pa ++ (p, fp) :: pb) ⟨cf, a ++ (k, l) :: b⟩) (hla : pa.length = a.length) (hfr : ∀ x ∈ a, x.1 ≠ k) (hl : h.lim ≤ h.objs.length)
    {c : Cmd} (hn : 1 ≤ c.n) (hid : c.id = k) (hlost : l.row = [] → l.lost = false) (hbr : l.row.length < 1000000) (hbf : (allRefs l.row).length < 1000000) :
    WA (C0 n_poll [.ptr id 0 0 0, .agg c.cells] h) fun v h' => ∃ m r fm fr fp', v = .tup [.agg [eI 0, eI 0, m], r] ∧ Own h' 1 false m (setCells (l.row.take c.n.toNat)) fm ∧ Own h' 2 true r (refCells (allRefs (l.row.take c.n.toNat))) fr ∧ Grown [] h fm ∧ Grown [] h fr ∧
      Fwd [p] h h' ∧ Grown [] h fp' ∧ LineAt h' p ⟨l.row.drop c.n.toNat, l.lost⟩ fp' := by
  refine call_W noExt_mono (f := n_poll) rfl rfl ?_
  have l1 := arr_lt H.top
  have l2 := map_lt H.map
  have top := H.top
  simp only [Conf.cells, List.cons_append, List.nil_append] at top
  have hm : (p, fp) ∈ pa ++ (p, fp) :: pb := by simp
  obtain ⟨k', l', hkl, hL⟩ : ∃ k' l', (k', l') = (k, l) ∧ LineAt h p l' fp := by
    refine ⟨k, l, rfl, H.lines pa.length k l p fp ?_ ?_⟩
    · rw [hla]; simp
    · simp
  cases hkl
  obtain ⟨⟨v, ha, ho⟩, hlim⟩ := hL
  have l3 := arr_lt ha
  have e3 : decide (c.n < 1) = false := by simpa using hn
  have elen : lenOf 0 v h = some l.row.length := by simpa using ho.len
  simp [Cmd.cells, Ends, top, H.map, nl l1, nl l2, nl l3, lk hl]
  rw [mapGet_ok (es := ents (a ++ (k, l) :: b) (pa ++ (p, fp) :: pb)) (by simp [H.map, nl l2]) (by simp [PD.alike]) (ents_alike _ _ _), hid, ents_some hla hfr]
  have elen' : ∀ h1 : Hp, lenOf 0 v h1 = some l.row.length := by
    intro h1
    generalize hq : l.row.map Fnd.cells = q at ho
    cases ho with
    | nil => simpa [lenOf] using elen
    | arr => simpa [lenOf] using elen
  simp [Ends, nl l1, nl l2, nl l3, lk hl, e3, ha, elen']
  refine Gd_join3 (fun f h' => f.get 3 = .ptr h.objs.length 0 0 0 ∧ f.get 4 = .ptr (h.objs.length + 1) 0 0 0 ∧ f.get 6 = .ptr p 0 0 0 ∧ Fwd [] h h' ∧ h'.objs.length = h.objs.length + 3 ∧ h'.arr h.objs.length 0 = some ⟨0, 14, true, 0, [c.cells]⟩ ∧ h'.arr (h.objs.length + 1) 0 = some ⟨0, 3, true, 0, [[eI 0, eI 0, .full []]]⟩) ?_ ?_
  · have fw : ∀ o1 o2 o3, Fwd [] h (((h.new o1).new o2).new o3) := fun o1 o2 o3 => (((Fwd.refl _ _).new _).new _).new _
    by_cases hr : l.row = []
    · simp [hr, hlost hr, nl l1, nl l2, nl l3, ha, Cmd.cells, hid, fw]
    · simp [hr, nl l1, nl l2, nl l3, ha, Cmd.cells, hid, fw]
  rintro f h1 ⟨g3, g4, g6, f1, n1, a3, a4⟩
  have ha1 := f1.arr ha (by simp)
  have m1 := f1.lim
  have hl1 : h1.lim ≤ h1.objs.length := by omega
  have l31 := arr_lt ha1
  have l41 := arr_lt a3
  have l51 := arr_lt a4
  obtain ⟨N, hN1, hN2, hN3, hN4⟩ : ∃ N : Nat, (if (l.row.length : Int) < c.n then (l.row.length : Int) else c.n) = (N : Int) ∧ N ≤ l.row.length ∧ l.row.take c.n.toNat = l.row.take N ∧ l.row.drop c.n.toNat = l.row.drop N := by
    by_cases q : (l.row.length : Int) < c.n
    · exact ⟨l.row.length, by rw [if_pos q], Nat.le_refl _, by rw [List.take_of_length_le (by omega), List.take_of_length_le (Nat.le_refl _)], by rw [List.drop_of_length_le (by omega), List.drop_of_length_le (Nat.le_refl _)]⟩
    · exact ⟨c.n.toNat, by rw [if_neg q]; omega, by omega, rfl, rfl⟩
  have he1 := (ho.fwd f1 (by simp)).els
  obtain ⟨w, hw1, hw2⟩ := els_slice he1 (lo := none) (hi := some (eI N)) (l := 0) (u := N) (by simp [bounds, upper, lower, bound, hN2]) ⟨Nat.zero_le _, by simpa using hN2⟩
  have elw : ∀ h2 : Hp, lenOf 0 w h2 = some N := by
    intro h2
    have e := els_len hw2
    simp at e
    rw [Nat.min_eq_left hN2] at e
    unfold lenOf at e ⊢
    split at e <;> simp_all
  simp only [hN3, hN4]
  simp [g3, g4, g6, a3, Cmd.cells, ha1, elen', nl l31, nl l41, nl l51, lk hl1, hN1, hw1, elw]
  have hw3 : elsOf 2 w h1 = some ((l.row.take N).map Fnd.cells) := by simpa [List.map_take] using hw2
  refine Run_loop (fun q f h' => ∃ i, i ≤ N ∧ q = N - i ∧ PLoop (h.objs.length + 1) N h1 p w l.row i f h') (n := N) ?_ ?_
  · refine ⟨0, Nat.zero_le _, rfl, ⟨by simp [g4], by simp [g6], by simp, by simp, by simp, by simp, by simp, ((Fwd.refl _ _).new _).new _, by simp, .full [], .arr (h1.objs.length + 1) 0 2 0 0 false, [], [h1.objs.length + 1], by simp, by simp, .nil, ?_, by simp, by simp, by simp⟩⟩
    have key := Own.arr (h := (h1.new (.cells ⟨0, 3, true, 0, [[eI 0, eI 0, .full []]]⟩)).new (.cells ⟨0, 2, true, 0, []⟩)) (id := h1.objs.length + 1) (g := 0) (off := 0) (len := 0) (frz := 0) (f := false) (sz := 2) (ag := true) (E := []) (by simp) (by simp) (by simp) (by simp; omega)
    simpa [refCells, allRefs] using key
  rintro q f2 h2 ⟨i, hi, rfl, L⟩
  obtain ⟨m, r, fm, fr, g8, am, om, or, lm, lr, dj⟩ := L.own
  by_cases hlt : i < N
  · obtain ⟨x, hx⟩ : ∃ x, l.row[i]? = some x := ⟨_, List.getElem?_eq_getElem (by omega)⟩
    have hel : ((l.row.take N).map Fnd.cells)[i]? = some x.cells := by
      rw [List.getElem?_map, List.getElem?_take, if_pos hlt, hx]; rfl
    obtain ⟨q, q1, q2⟩ := els_get (els_fwd hw3 L.fw) hel rfl .i64
    have lmm := arr_lt am
    have hl2 : h2.lim ≤ h2.objs.length := L.fw.limlen hl1
    have etk : l.row.take (i + 1) = l.row.take i ++ [x] := by rw [List.take_add_one, hx]; rfl
    simp only [Fnd.cells] at q2
    simp [L.g4, L.g6, L.g7, L.g9, L.g55, L.g56, L.g57, g8, hlt, q1, q2, am, nl lmm, lk hl2]
    have sl : (setCells (l.row.take i)).length = i := by simp [setCells]; omega
    have rl : (allRefs (l.row.take i)).length + x.refs.length ≤ (allRefs l.row).length := by
      have e : l.row = l.row.take (i + 1) ++ l.row.drop (i + 1) := (List.take_append_drop _ _).symm
      rw [etk] at e
      conv => rhs; rw [e]
      simp [allRefs]
    refine PutA_of ((om.fwd (ids := []) (by repeat first | exact Fwd.refl _ _ | refine Fwd.set ?_ _ (by simp) | refine Fwd.new ?_ _) (by simp)).append (x := .arr (h2.objs.length + 1) 0 1 0 1 true) (ys := [[.p (.list x.sets)]]) (by simp [elsOf]) (by rw [sl]; simp; omega) (by simp; omega)) ?_
    rintro m2 h3 ⟨fm2, om2, f3, gr3⟩
    have nm : h1.objs.length ∉ fm := fun q => Nat.lt_irrefl _ (lm _ q)
    have nr : h1.objs.length ∉ fr := fun q => Nat.lt_irrefl _ (lr _ q)
    have am3 := f3.arr (id := h1.objs.length) (g := 0) (ar := ⟨0, 3, true, 0, [[eI 0, eI 0, m]]⟩) (by simp [am, nl lmm]) nm
    have a113 := f3.arr (id := h2.objs.length) (g := 0) (ar := ⟨0, 2, true, 0, [[.p (.list x.sets), .p (.list (x.refs.map rPD))]]⟩) (by simp) (fun q => Nat.lt_irrefl _ (om.lt _ q))
    have or3 := (or.fwd (ids := []) (by repeat first | exact Fwd.refl _ _ | refine Fwd.set ?_ _ (by simp) | refine Fwd.new ?_ _) (by simp)).fwd f3 dj
    have lm3 := f3.lim
    have ln3 := f3.len
    simp at lm3 ln3
    have l13 := arr_lt am3
    have l23 := arr_lt a113
    have hh1 : h3.lim ≤ h1.objs.length := by rw [lm3, L.fw.lim]; exact hl1
    have om2one : m2.cells = [m2] ∧ EV.one m2 = true := by generalize hq : setCells (l.row.take i) ++ [[EV.p (.list x.sets)]] = q at om2; cases om2 <;> exact ⟨rfl, rfl⟩
    simp [am3, a113, hh1, om2one.1, om2one.2, ones, nl l13, nl l23, nl lmm]
    refine PutA_of ((or3.fwd (ids := [h1.objs.length]) ((Fwd.refl _ _).set _ (by simp)) (fun y hy q => by simp at q; subst q; exact nr hy)).append (x := .p (.list (x.refs.map rPD))) (ys := refCells x.refs) (refs_els _ _) (by simp [refCells]; omega) (by simp; omega)) ?_
    rintro r2 h4 ⟨fr2, or2, f4, gr4⟩
    have f23 : Fwd fm h2 h3 := Fwd.trans (Fwd.mono (ids := []) (by repeat first | exact Fwd.refl _ _ | refine Fwd.set ?_ _ (by simp) | refine Fwd.new ?_ _) (by simp)) f3
    have f34 : Fwd (h1.objs.length :: fr) h3 h4 := Fwd.trans ((Fwd.refl _ _).set _ (by simp)) (f4.mono (by intro y hy; simp [hy]))
    have gm : ∀ y ∈ fm2, h1.objs.length < y ∧ y ∉ fr := by
      intro y hy
      rcases gr3 y hy with q | q
      · exact ⟨lm y q, fun q2 => dj y q2 q⟩
      · simp at q
        exact ⟨by omega, fun q2 => by have := or.lt y q2; omega⟩
    have a4m := f4.arr (id := h1.objs.length) (g := 0) (ar := ⟨0, 3, true, 0, [[eI 0, eI 0, m2]]⟩) (by simp [nl l13]) nr
    have ln4 := f4.len
    have lm4 := f4.lim
    simp at ln4 lm4
    have wi : IntKind.wrap .i64 ((i : Int) + 1) = (i : Int) + 1 := wrap64 (by omega) (by omega)
    simp [wi]
    refine ⟨N - (i + 1), by omega, i + 1, by omega, rfl, ⟨by simp, by simp, by simp, by simp, by simp, by simp, by simp, ?_, by omega, m2, r2, fm2, fr2, by simp, a4m, ?_, ?_, ?_, ?_, ?_⟩⟩
    · exact (L.fw.trans' f23 (fun y hy => .inr (Nat.le_of_lt (lm y hy)))).trans' f34 (fun y hy => .inr (by
        rcases List.mem_cons.1 hy with rfl | hy
        · exact Nat.le_refl _
        · exact Nat.le_of_lt (lr y hy)))
    · have e : setCells (l.row.take (i + 1)) = setCells (l.row.take i) ++ [[.p (.list x.sets)]] := by rw [etk]; simp [setCells]
      rw [e]
      refine om2.fwd f34 fun y hy q => ?_
      rcases List.mem_cons.1 q with rfl | q
      · exact Nat.lt_irrefl _ (gm _ hy).1
      · exact (gm _ hy).2 q
    · have e : refCells (allRefs (l.row.take (i + 1))) = refCells (allRefs (l.row.take i)) ++ refCells x.refs := by rw [etk]; simp [refCells, allRefs]
      rw [e]
      exact or2
    · exact fun y hy => (gm y hy).1
    · intro y hy
      rcases gr4 y hy with q | q
      · exact lr y q
      · simp at q; omega
    · intro y hy q
      rcases gr4 y hy with q2 | q2
      · exact (gm y q).2 q2
      · have := om2.lt y q
        simp at q2
        omega
  · have : i = N := by omega
    subst this
    have ap := L.fw.arr ha1 (by simp)
    have a42 := L.fw.arr a4 (by simp)
    have lp := arr_lt ap
    have lmm := arr_lt am
    have l42 := arr_lt a42
    have hl2 : h2.lim ≤ h2.objs.length := L.fw.limlen hl1
    obtain ⟨w2, hv1, hv2⟩ := els_slice (els_fwd he1 L.fw) (lo := some (eI i)) (hi := none) (l := i) (u := l.row.length) (by simp [bounds, upper, lower, bound, hN2]) ⟨hN2, by simp⟩
    have hv3 : elsOf 2 w2 h2 = some ((l.row.drop i).map Fnd.cells) := by
      rw [hv2, List.map_drop, List.take_of_length_le (by simp)]
    have o0 : ∀ hh : Hp, hh.arr h2.objs.length 0 = some ⟨0, 2, true, 0, []⟩ → hh.lim ≤ h2.objs.length → Own hh 2 true (.arr h2.objs.length 0 2 0 0 true) [] [h2.objs.length] := fun hh e1 e2 => by
      simpa using Own.arr (off := 0) (len := 0) (f := true) e1 (by simp) (by simp) e2
    simp [L.g4, L.g6, L.g7, L.g9, L.g55, L.g56, L.g57, g8, ap, nl lp, hv1]
    refine PutA_of ((o0 _ (by simp) (by simpa using hl2)).append (x := w2) (ys := (l.row.drop i).map Fnd.cells) (els_fwd hv3 ((Fwd.refl _ _).new _)) (by simp; omega) (by simp; omega)) ?_
    rintro v2 h3 ⟨fv, ov, f3, gv⟩
    have nq : ∀ y, y < h2.objs.length → y ∉ [h2.objs.length] := fun y hy q => by simp at q; omega
    have ap3 := f3.arr (id := p) (g := 0) (ar := ⟨0, 2, true, 0, [[v, eB l.lost]]⟩) (by simp [ap, nl lp]) (nq _ lp)
    have am3 := f3.arr (id := h1.objs.length) (g := 0) (ar := ⟨0, 3, true, 0, [[eI 0, eI 0, m]]⟩) (by simp [am, nl lmm]) (nq _ lmm)
    have a43 := f3.arr (id := h.objs.length + 1) (g := 0) (ar := ⟨0, 3, true, 0, [[eI 0, eI 0, .full []]]⟩) (by simp [a42, nl l42]) (nq _ l42)
    have ov1 : v2.cells = [v2] ∧ EV.one v2 = true := by generalize hq : ([] ++ List.map Fnd.cells (List.drop i l.row)) = q at ov; cases ov <;> exact ⟨rfl, rfl⟩
    have om1 : m.cells = [m] ∧ EV.one m = true := by generalize hq : setCells (List.take i l.row) = q at om; cases om <;> exact ⟨rfl, rfl⟩
    have lm3 : h3.lim = h.lim := by rw [f3.lim]; simp [L.fw.lim, m1]
    have lp3 := arr_lt ap3
    have lmm3 := arr_lt am3
    have l43 := arr_lt a43
    have hlp : h.lim ≤ p := hlim
    have hl4 : h.lim ≤ h.objs.length + 1 := by omega
    simp [ap3, ov1.1, ov1.2, om1.1, om1.2, ones, am3, a43, lm3, hlp, hl4, nl l3, nl l31, nl l51, nl lp3, nl lmm3, nl l43, Ends]
    rw [Hp.back_of lm3]
    have f23 : Fwd [] h2 h3 := ((Fwd.refl [] h2).new _).trans' f3 (fun y hy => .inr (by simp at hy; omega))
    have F : Fwd [p, h.objs.length + 1] h3 ((h3.setArr p ⟨0, 2, true, 0, [[v2, eB l.lost]]⟩).setArr (h.objs.length + 1) ⟨0, 3, true, 0, [[eI 0, eI 0, m]]⟩) := ((Fwd.refl _ _).set _ (by simp)).set _ (by simp)
    have away : ∀ y, h1.objs.length < y → y ∉ [p, h.objs.length + 1] := fun y hy q => by
      simp at q
      omega
    have gv' : ∀ y ∈ fv, h2.objs.length ≤ y := fun y hy => by
      rcases gv y hy with q | q
      · simp at q; omega
      · simp at q; omega
    refine ⟨m, r, ⟨rfl, rfl⟩, fm, (om.fwd f23 (by simp)).fwd F fun y hy => away y (lm y hy), fr, (or.fwd f23 (by simp)).fwd F fun y hy => away y (lr y hy), fun y hy => .inr (by have := lm y hy; omega), fun y hy => .inr (by have := lr y hy; omega), ?_, fv, fun y hy => .inr (by have := gv' y hy; have := L.len; omega), ⟨⟨v2, ?_, ?_⟩, ?_⟩⟩
    · exact (((f1.trans L.fw).trans f23).mono (by simp)).trans' F fun y hy => by
        simp at hy
        rcases hy with rfl | rfl
        · exact .inl (by simp)
        · exact .inr (by omega)
    · simp [nl l3, nl lp3]
    · have ov' : Own h3 2 true v2 ((l.row.drop i).map Fnd.cells) fv := by simpa using ov
      exact ov'.fwd F fun y hy => away y (by have := gv' y hy; have := L.len; omega)
    · simpa [lm3] using hlp

end Dk.Q
