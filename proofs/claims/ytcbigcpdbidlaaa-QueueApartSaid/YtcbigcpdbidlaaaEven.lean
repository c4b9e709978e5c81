/- Of what came, that of even ids. -/
import Derived.Test.YtcbigcpdbidlaaaShows2
import Derived.Test.YtcbigcpdbidlaaaSameA
set_option linter.unusedVariables false
set_option linter.unusedSimpArgs false
set_option linter.unusedSectionVars false
namespace Dk.Q
open Go Dk

def eHits : DC := .seq (.seq (.ops [S 57 (.mv (.t 13)),
           S 58 (.mv (.t 10)),
           S 59 (.mv (.t 12)),
           S 60 (.ixa 4 (.t 58) (.t 59)),
           S 61 (.fld 0 (.t 60)),
           S 62 (.ld false 1 (.t 61)),
           S 63 (.len 0 (.t 62)),
           S 64 (.bin .lss .none (.t 57) (.t 63))])
         (.cond (.t 64)
          (.skip)
          (.exit 4)))
         (.seq (.block 5 (.seq (.ops [S 67 (.mv (.t 10)),
            S 68 (.mv (.t 12)),
            S 69 (.ixa 4 (.t 67) (.t 68)),
            S 70 (.fld 0 (.t 69)),
            S 71 (.ld false 1 (.t 70)),
            S 72 (.mv (.t 13)),
            S 73 (.ixa 3 (.t 71) (.t 72)),
            S 74 (.fld 0 (.t 73)),
            S 75 (.ld false 1 (.t 74)),
            S 76 (.bin .rem .none (.t 75) (xI 2)),
            S 77 (.bin .eql .none (.t 76) (xI 0))])
          (.cond (.t 77)
           (.ops [S 78 (.mv (.t 11)),
             S 79 (.mv (.t 12)),
             S 80 (.mv (.t 11)),
             S 81 (.mv (.t 12)),
             S 82 (.ixa 4 (.t 80) (.t 81)),
             S 83 (.fld 0 (.t 82)),
             S 84 (.ld false 1 (.t 83)),
             S 85 (.mv (.t 10)),
             S 86 (.mv (.t 12)),
             S 87 (.ixa 4 (.t 85) (.t 86)),
             S 88 (.fld 0 (.t 87)),
             S 89 (.ld false 1 (.t 88)),
             S 90 (.mv (.t 13)),
             S 91 (.ixa 3 (.t 89) (.t 90)),
             S 92 (.ld true 3 (.t 91)),
             S 93 (.lit 3 true [[(eI 0), (.full []), (.full [])]] [(0, (.t 92))]),
             S 94 (.app 3 true 56 (.t 84) (.t 93)),
             S 95 (.ixa 4 (.t 78) (.t 79)),
             S 96 (.fld 0 (.t 95)),
             E (.st 1 (.t 96) (.t 94))])
           (.skip))))
         (.ops [S 65 (.mv (.t 13)),
           S 66 (.bin .add .none (.t 65) (xI 1)),
           S 13 (.mv (.t 66))]))
def eLost : DC := .seq (.seq (.ops [S 97 (.mv (.t 14)),
           S 98 (.mv (.t 10)),
           S 99 (.mv (.t 12)),
           S 100 (.ixa 4 (.t 98) (.t 99)),
           S 101 (.fld 1 (.t 100)),
           S 102 (.ld false 1 (.t 101)),
           S 103 (.len 0 (.t 102)),
           S 104 (.bin .lss .none (.t 97) (.t 103))])
         (.cond (.t 104)
          (.skip)
          (.exit 6)))
         (.seq (.block 7 (.seq (.ops [S 107 (.mv (.t 10)),
            S 108 (.mv (.t 12)),
            S 109 (.ixa 4 (.t 107) (.t 108)),
            S 110 (.fld 1 (.t 109)),
            S 111 (.ld false 1 (.t 110)),
            S 112 (.mv (.t 14)),
            S 113 (.ixa 1 (.t 111) (.t 112)),
            S 114 (.ld false 1 (.t 113)),
            S 115 (.bin .rem .none (.t 114) (xI 2)),
            S 116 (.bin .eql .none (.t 115) (xI 0))])
          (.cond (.t 116)
           (.ops [S 117 (.mv (.t 11)),
             S 118 (.mv (.t 12)),
             S 119 (.mv (.t 11)),
             S 120 (.mv (.t 12)),
             S 121 (.ixa 4 (.t 119) (.t 120)),
             S 122 (.fld 1 (.t 121)),
             S 123 (.ld false 1 (.t 122)),
             S 124 (.mv (.t 10)),
             S 125 (.mv (.t 12)),
             S 126 (.ixa 4 (.t 124) (.t 125)),
             S 127 (.fld 1 (.t 126)),
             S 128 (.ld false 1 (.t 127)),
             S 129 (.mv (.t 14)),
             S 130 (.ixa 1 (.t 128) (.t 129)),
             S 131 (.ld false 1 (.t 130)),
             S 132 (.lit 1 false [[(eI 0)]] [(0, (.t 131))]),
             S 133 (.app 1 false 8 (.t 123) (.t 132)),
             S 134 (.ixa 4 (.t 117) (.t 118)),
             S 135 (.fld 1 (.t 134)),
             E (.st 1 (.t 135) (.t 133))])
           (.skip))))
         (.ops [S 105 (.mv (.t 14)),
           S 106 (.bin .add .none (.t 105) (xI 1)),
           S 14 (.mv (.t 106))]))
def eOut : DC := .seq (.seq (.ops [S 51 (.mv (.t 12)),
        S 52 (.mv (.t 10)),
        S 53 (.len 0 (.t 52)),
        S 54 (.bin .lss .none (.t 51) (.t 53))])
      (.cond (.t 54)
       (.skip)
       (.exit 2)))
      (.seq (.block 3 (.seq (.seq (.ops [S 13 (.mv (xI 0))])
       (.block 4 (.loop [1, 5, 6, 7, 8, 9, 10, 11, 12, 13] eHits)))
       (.seq (.ops [S 14 (.mv (xI 0))])
       (.block 6 (.loop [1, 5, 6, 7, 8, 9, 10, 11, 12, 14] eLost)))))
      (.ops [S 55 (.mv (.t 12)),
        S 56 (.bin .add .none (.t 55) (xI 1)),
        S 12 (.mv (.t 56))]))
def fullRow : List EV := [.full [], .full [], .full [], .full []]
def Hit.cells (x : Hit) : List EV := [eI x.id, .p (.list x.f.sets), .p (.list (x.f.refs.map rPD))]

/-- Even hits of one out. -/
structure EHAt (o : OutV) (r k N : Nat) (rows : List (List EV)) (f0 : Fr) (h0 : Hp) (q : Nat) (f : Fr) (h : Hp) (j : Nat) (hv : EV) (fp : List Nat) : Prop where
  e : ∀ t ∈ [1, 5, 6, 7, 8, 9, 10, 11, 12], f.get t = f0.get t
  g13 : f.get 13 = eI j
  le : j ≤ o.hits.length
  q : q = o.hits.length - j
  ar : h.arr r 0 = some ⟨0, 4, true, 0, rows.set k [hv, .full [], .full [], .full []]⟩
  own : Own h 3 true hv (((o.hits.take j).filter fun x => evenI x.id).map Hit.cells) fp
  new : ∀ y ∈ fp, N ≤ y
  fw : Fwd [r] h0 h

theorem hits_even {o : OutV} {outs : List OutV} {r k : Nat} {rows : List (List EV)} {f : Fr} {h : Hp} {Q : Ex → Fr → Hp → Prop} {ks : List Ct} (hko : outs[k]? = some o) (hof : o.hits.length < 1000) (g10 : f.get 10 = .p (.list (outs.map OutV.pd))) (g11 : f.get 11 = .arr r 0 4 0 rows.length false) (g12 : f.get 12 = eI k) (g13 : f.get 13 = eI 0)
    (ar : h.arr r 0 = some ⟨0, 4, true, 0, rows⟩) (hk : rows[k]? = some fullRow) (hlr : h.lim ≤ r) (hl : h.lim ≤ h.objs.length)
    (hQ : ∀ f' h' hv fp, (∀ t ∈ [1, 5, 6, 7, 8, 9, 10, 11, 12], f'.get t = f.get t) → h'.arr r 0 = some ⟨0, 4, true, 0, rows.set k [hv, .full [], .full [], .full []]⟩ → Own h' 3 true hv ((evenO o).hits.map Hit.cells) fp → (∀ y ∈ fp, h.objs.length ≤ y) → Fwd [r] h h' → Run C0 ks .normal f' h' Q) :
    Run C0 (.code (.loop [1, 5, 6, 7, 8, 9, 10, 11, 12, 13] eHits) :: .block 4 :: ks) .normal f h Q := by
  have hk2 := (List.getElem?_eq_some_iff.1 hk).2
  have hkl := (List.getElem?_eq_some_iff.1 hk).1
  have hol := (List.getElem?_eq_some_iff.1 hko).1
  have ho2 := (List.getElem?_eq_some_iff.1 hko).2
  have lr := arr_lt ar
  refine Run_loop (fun q f' h' => ∃ j hv fp, EHAt o r k h.objs.length rows f h q f' h' j hv fp) (n := o.hits.length) ?_ ?_
  · refine ⟨0, .full [], [], fun t _ => rfl, g13, by omega, rfl, ?_, by simpa using Own.nil, by simp, Fwd.refl _ _⟩
    rw [ar]
    have : rows.set k [.full [], .full [], .full [], .full []] = rows := by
      rw [show [.full [], .full [], .full [], .full []] = rows[k] from hk2.symm, List.set_getElem_self]
    rw [this]
  rintro q f2 h2 ⟨j, hv, fp, I⟩
  obtain ⟨Ie, I13, Ile, Iq, Iar, IO, In, If⟩ := I
  have e1 := Ie 1 (by simp)
  have e5 := Ie 5 (by simp)
  have e6 := Ie 6 (by simp)
  have e7 := Ie 7 (by simp)
  have e8 := Ie 8 (by simp)
  have e9 := Ie 9 (by simp)
  have e10 := (Ie 10 (by simp)).trans g10
  have e11 := (Ie 11 (by simp)).trans g11
  have e12 := (Ie 12 (by simp)).trans g12
  have lr2 := arr_lt Iar
  have l2 : h2.lim ≤ h2.objs.length := If.limlen hl
  have llr2 : h2.lim ≤ r := by rw [If.lim]; exact hlr
  simp only [eHits]
  by_cases hj : j < o.hits.length
  · obtain ⟨x, hx⟩ : ∃ x, o.hits[j]? = some x := ⟨_, List.getElem?_eq_getElem hj⟩
    have hx2 := (List.getElem?_eq_some_iff.1 hx).2
    have w1 : IntKind.i64.wrap ((j : Int) + 1) = (j : Int) + 1 := wrap64 (by omega) (by omega)
    have b1 : binOp .rem .none (eI x.id) (eI 2) = some (eI (x.id.tmod 2)) := by simp [binOp, intBin]
    have tk : o.hits.take (j + 1) = o.hits.take j ++ [x] := by rw [List.take_add_one, hx]; rfl
    simp [I13, e10, e12, hol, ho2, OutV.pd, rowPD, hj, hx2, Hit.pd]
    by_cases hev : x.id.tmod 2 = 0
    · have hev' : evenI x.id = true := by simp [evenI, hev]
      have sh : ((o.hits.take j).filter fun x => evenI x.id).length ≤ o.hits.length := Nat.le_trans (List.length_filter_le _ _) (by rw [List.length_take]; omega)
      simp [hev, e11, e12, e10, Iar, nl lr2, hkl, I13, hol, ho2, OutV.pd, rowPD, hj, hx2, Hit.pd, ones]
      have F0 : Fwd [] h2 (h2.new (.cells ⟨0, 3, true, 0, [[eI x.id, .p (.list x.f.sets), .p (.list (x.f.refs.map rPD))]]⟩)) := (Fwd.refl _ _).new _
      refine PutA_of ((IO.fwd F0 (by simp)).append (x := .arr h2.objs.length 0 3 0 1 true) (ys := [x.cells]) (by simp [elsOf, Hit.cells]) (by simp; omega) (by simp; omega)) ?_
      rintro v h3 ⟨fp3, O3, F3, G3⟩
      have Fr23 : Fwd fp h2 h3 := ((F0.mono (ids' := fp) (by simp)).trans F3)
      have rn : r ∉ fp := fun q => by have := In r q; have := arr_lt ar; omega
      have ar3 := Fr23.arr Iar rn
      have lr3 := arr_lt ar3
      have llr3 : h3.lim ≤ r := by rw [Fr23.lim]; exact llr2
      have ov := O3.one
      simp [e11, e12, ar3, nl lr3, hkl, llr3, ones, ov.1, ov.2, w1]
      obtain ⟨Y, eY⟩ : ∃ Y, Y = h3.setArr r ⟨0, 4, true, 0, rows.set k [v, .full [], .full [], .full []]⟩ := ⟨_, rfl⟩
      rw [← eY]
      have FY : Fwd [r] h3 Y := by rw [eY]; exact (Fwd.refl _ _).set _ (by simp)
      have n3 : ∀ y ∈ fp3, h.objs.length ≤ y := fun y hy => by
        rcases G3 y hy with q | q
        · exact In y q
        · simp at q; have := If.len; omega
      refine ⟨o.hits.length - (j + 1), by omega, j + 1, v, fp3, ?_, by simp, by omega, rfl, by rw [eY]; simp [Hp.arr_set, lr3], ?_, n3, ?_⟩
      · simp [e1, e5, e6, e7, e8, e9, e10, e11, e12, g10, g11, g12]
      · rw [tk, List.filter_append]
        have : ([x].filter fun x => evenI x.id) = [x] := by simp [hev']
        rw [this, List.map_append]
        exact O3.fwd FY fun y hy q => by simp at q; subst q; have := n3 _ hy; omega
      · exact (If.trans' Fr23 fun y hy => .inr (In y hy)).trans FY
    · have hev' : evenI x.id = false := by simp [evenI, hev]
      simp [hev, w1]
      refine ⟨o.hits.length - (j + 1), by omega, j + 1, hv, fp, ?_, by simp, by omega, rfl, Iar, ?_, In, If⟩
      · simp [e1, e5, e6, e7, e8, e9, e10, e11, e12, g10, g11, g12]
      · rw [tk, List.filter_append]
        simpa [hev'] using IO
  · obtain rfl : j = o.hits.length := by omega
    simp [I13, e10, e12, hol, ho2, OutV.pd, rowPD]
    refine hQ _ h2 hv fp ?_ Iar ?_ In If
    · simp [e1, e5, e6, e7, e8, e9, e10, e11, e12, g10, g11, g12]
    · simpa [evenO] using IO
/-- Even lost ids of one out. -/
structure ELAt (o : OutV) (r k N : Nat) (rows : List (List EV)) (f0 : Fr) (h0 : Hp) (q : Nat) (f : Fr) (h : Hp) (j : Nat) (hv lv : EV) (fp : List Nat) : Prop where
  e : ∀ t ∈ [1, 5, 6, 7, 8, 9, 10, 11, 12], f.get t = f0.get t
  g14 : f.get 14 = eI j
  le : j ≤ o.lost.length
  q : q = o.lost.length - j
  ar : h.arr r 0 = some ⟨0, 4, true, 0, rows.set k [hv, lv, .full [], .full []]⟩
  own : Own h 1 false lv (ints ((o.lost.take j).filter evenI)) fp
  new : ∀ y ∈ fp, N ≤ y
  fw : Fwd [r] h0 h

theorem lost_even {o : OutV} {outs : List OutV} {r k : Nat} {rows : List (List EV)} {hv : EV} {f : Fr} {h : Hp} {Q : Ex → Fr → Hp → Prop} {ks : List Ct} (hko : outs[k]? = some o) (hof : o.lost.length < 1000) (g10 : f.get 10 = .p (.list (outs.map OutV.pd))) (g11 : f.get 11 = .arr r 0 4 0 rows.length false) (g12 : f.get 12 = eI k) (g14 : f.get 14 = eI 0)
    (ar : h.arr r 0 = some ⟨0, 4, true, 0, rows⟩) (hk : rows[k]? = some [hv, .full [], .full [], .full []]) (hlr : h.lim ≤ r) (hl : h.lim ≤ h.objs.length)
    (hQ : ∀ f' h' lv fp, (∀ t ∈ [1, 5, 6, 7, 8, 9, 10, 11, 12], f'.get t = f.get t) → h'.arr r 0 = some ⟨0, 4, true, 0, rows.set k [hv, lv, .full [], .full []]⟩ → Own h' 1 false lv (ints (evenO o).lost) fp → (∀ y ∈ fp, h.objs.length ≤ y) → Fwd [r] h h' → Run C0 ks .normal f' h' Q) :
    Run C0 (.code (.loop [1, 5, 6, 7, 8, 9, 10, 11, 12, 14] eLost) :: .block 6 :: ks) .normal f h Q := by
  have hk2 := (List.getElem?_eq_some_iff.1 hk).2
  have hkl := (List.getElem?_eq_some_iff.1 hk).1
  have hol := (List.getElem?_eq_some_iff.1 hko).1
  have ho2 := (List.getElem?_eq_some_iff.1 hko).2
  have lr := arr_lt ar
  refine Run_loop (fun q f' h' => ∃ j lv fp, ELAt o r k h.objs.length rows f h q f' h' j hv lv fp) (n := o.lost.length) ?_ ?_
  · refine ⟨0, .full [], [], fun t _ => rfl, g14, by omega, rfl, ?_, by simpa [ints] using Own.nil, by simp, Fwd.refl _ _⟩
    rw [ar]
    have : rows.set k [hv, .full [], .full [], .full []] = rows := by
      rw [show [hv, .full [], .full [], .full []] = rows[k] from hk2.symm, List.set_getElem_self]
    rw [this]
  rintro q f2 h2 ⟨j, lv, fp, I⟩
  obtain ⟨Ie, I14, Ile, Iq, Iar, IO, In, If⟩ := I
  have e1 := Ie 1 (by simp)
  have e5 := Ie 5 (by simp)
  have e6 := Ie 6 (by simp)
  have e7 := Ie 7 (by simp)
  have e8 := Ie 8 (by simp)
  have e9 := Ie 9 (by simp)
  have e10 := (Ie 10 (by simp)).trans g10
  have e11 := (Ie 11 (by simp)).trans g11
  have e12 := (Ie 12 (by simp)).trans g12
  have lr2 := arr_lt Iar
  have l2 : h2.lim ≤ h2.objs.length := If.limlen hl
  have llr2 : h2.lim ≤ r := by rw [If.lim]; exact hlr
  simp only [eLost]
  by_cases hj : j < o.lost.length
  · obtain ⟨x, hx⟩ : ∃ x, o.lost[j]? = some x := ⟨_, List.getElem?_eq_getElem hj⟩
    have hx2 := (List.getElem?_eq_some_iff.1 hx).2
    have w1 : IntKind.i64.wrap ((j : Int) + 1) = (j : Int) + 1 := wrap64 (by omega) (by omega)
    have b1 : binOp .rem .none (eI x) (eI 2) = some (eI (x.tmod 2)) := by simp [binOp, intBin]
    have tk : o.lost.take (j + 1) = o.lost.take j ++ [x] := by rw [List.take_add_one, hx]; rfl
    simp [I14, e10, e12, hol, ho2, OutV.pd, hj, hx2]
    by_cases hev : x.tmod 2 = 0
    · have hev' : evenI x = true := by simp [evenI, hev]
      have sh : ((o.lost.take j).filter evenI).length ≤ o.lost.length := Nat.le_trans (List.length_filter_le _ _) (by rw [List.length_take]; omega)
      simp [hev, e11, e12, e10, Iar, nl lr2, hkl, I14, hol, ho2, OutV.pd, hj, hx2, ones]
      have F0 : Fwd [] h2 (h2.new (.cells ⟨0, 1, false, 0, [[eI x]]⟩)) := (Fwd.refl _ _).new _
      refine PutA_of ((IO.fwd F0 (by simp)).append (x := .arr h2.objs.length 0 1 0 1 true) (ys := [[eI x]]) (by simp [elsOf]) (by simp [ints]; omega) (by simp; omega)) ?_
      rintro v h3 ⟨fp3, O3, F3, G3⟩
      have Fr23 : Fwd fp h2 h3 := ((F0.mono (ids' := fp) (by simp)).trans F3)
      have rn : r ∉ fp := fun q => by have := In r q; have := arr_lt ar; omega
      have ar3 := Fr23.arr Iar rn
      have lr3 := arr_lt ar3
      have llr3 : h3.lim ≤ r := by rw [Fr23.lim]; exact llr2
      have ov := O3.one
      simp [e11, e12, ar3, nl lr3, hkl, llr3, ones, ov.1, ov.2, w1]
      obtain ⟨Y, eY⟩ : ∃ Y, Y = h3.setArr r ⟨0, 4, true, 0, rows.set k [hv, v, .full [], .full []]⟩ := ⟨_, rfl⟩
      rw [← eY]
      have FY : Fwd [r] h3 Y := by rw [eY]; exact (Fwd.refl _ _).set _ (by simp)
      have n3 : ∀ y ∈ fp3, h.objs.length ≤ y := fun y hy => by
        rcases G3 y hy with q | q
        · exact In y q
        · simp at q; have := If.len; omega
      refine ⟨o.lost.length - (j + 1), by omega, j + 1, v, fp3, ?_, by simp, by omega, rfl, by rw [eY]; simp [Hp.arr_set, lr3], ?_, n3, ?_⟩
      · simp [e1, e5, e6, e7, e8, e9, e10, e11, e12, g10, g11, g12]
      · rw [tk, List.filter_append]
        have : ([x].filter evenI) = [x] := by simp [hev']
        rw [this, ints, List.map_append]
        exact O3.fwd FY fun y hy q => by simp at q; subst q; have := n3 _ hy; omega
      · exact (If.trans' Fr23 fun y hy => .inr (In y hy)).trans FY
    · have hev' : evenI x = false := by simp [evenI, hev]
      simp [hev, w1]
      refine ⟨o.lost.length - (j + 1), by omega, j + 1, lv, fp, ?_, by simp, by omega, rfl, Iar, ?_, In, If⟩
      · simp [e1, e5, e6, e7, e8, e9, e10, e11, e12, g10, g11, g12]
      · rw [tk, List.filter_append]
        simpa [hev'] using IO
  · obtain rfl : j = o.lost.length := by omega
    simp [I14, e10, e12, hol, ho2, OutV.pd]
    refine hQ _ h2 lv fp ?_ Iar ?_ In If
    · simp [e1, e5, e6, e7, e8, e9, e10, e11, e12, g10, g11, g12]
    · simpa [evenO] using IO
end Dk.Q
