/- Hits, laid into outs. -/
import Derived.Test.YtcbigcpdbidlaaaCmd
set_option linter.unusedVariables false
set_option linter.unusedSimpArgs false
set_option linter.unusedSectionVars false
namespace Dk.Q
open Go Dk

def cD1 : DC := .ops [S 119 (.lit 3 true [] []),
      S 120 (.mv (.t 7)),
      S 121 (.mv (.t 9)),
      S 122 (.ixa 4 (.t 120) (.t 121)),
      S 123 (.fld 0 (.t 122)),
      S 124 (.ld false 1 (.t 123)),
      S 125 (.mv (.t 11)),
      S 126 (.slc 3 (.t 124) (some (.t 125)) none none),
      S 127 (.app 3 true 56 (.t 119) (.t 126)),
      S 12 (.mv (.t 127))]
def cD2 : DC := .ops [S 128 (.mv (.t 7)),
      S 129 (.mv (.t 9)),
      S 130 (.mv (.t 7)),
      S 131 (.mv (.t 9)),
      S 132 (.ixa 4 (.t 130) (.t 131)),
      S 133 (.fld 0 (.t 132)),
      S 134 (.ld false 1 (.t 133)),
      S 135 (.mv (.t 11)),
      S 136 (.mv (.t 11)),
      S 137 (.slc 3 (.t 134) none (some (.t 135)) (some (.t 136))),
      S 138 (.ld true 3 (.t 10)),
      S 139 (.lit 3 true [[(eI 0), (.full []), (.full [])]] [(0, (.t 138))]),
      S 141 (.mv (.t 12)),
      S 140 (.app 3 true 56 (.t 137) (.t 139)),
      S 142 (.app 3 true 56 (.t 140) (.t 141)),
      S 143 (.ixa 4 (.t 128) (.t 129)),
      S 144 (.fld 0 (.t 143)),
      E (.st 1 (.t 144) (.t 142))]

theorem Shows.one {P : Nat → Prop} {h : Hp} {n : Nat} {v : EV} {d : PD} (H : Shows P h n v d) : v.cells = [v] ∧ EV.one v = true := by
  cases n with
  | zero => rcases H with rfl | ⟨_, rfl, -⟩ <;> exact ⟨rfl, rfl⟩
  | succ n => rcases H with (rfl | ⟨_, rfl, -⟩) | ⟨_, _, _, _, _, _, _, rfl, -⟩ <;> exact ⟨rfl, rfl⟩
/-- One match, in an array. -/
def HEl (P : Nat → Prop) (h : Hp) (el : List EV) (x : Hit) : Prop := ∃ sv rv, el = [eI x.id, sv, rv] ∧ Shows P h 6 sv (.list x.f.sets) ∧ Shows P h 6 rv (.list (x.f.refs.map rPD))
/-- The matches of an out. -/
inductive HV (P : Nat → Prop) (h : Hp) : EV → List Hit → Prop
  | nil : HV P h (.full []) []
  | arr {id g : Nat} {els : List (List EV)} {hits : List Hit} : h.arr id g = some ⟨g, 3, true, 0, els⟩ → P id → h.lim ≤ id → All2 (HEl P h) els hits → HV P h (.arr id g 3 0 els.length false) hits
theorem HEl.fwd {P : Nat → Prop} {h h' : Hp} {ids : List Nat} (f : Fwd ids h h') (hi : ∀ y ∈ ids, ¬ P y) {el : List EV} {x : Hit} : HEl P h el x → HEl P h' el x
  | ⟨sv, rv, e, q, r⟩ => ⟨sv, rv, e, q.fwd f hi, r.fwd f hi⟩
theorem HV.fwd {P : Nat → Prop} {h h' : Hp} {ids : List Nat} (f : Fwd ids h h') (hi : ∀ y ∈ ids, ¬ P y) {v : EV} {l : List Hit} (H : HV P h v l) : HV P h' v l := by
  cases H with
  | nil => exact .nil
  | arr a b c d => exact .arr (f.arr a fun q => hi _ q b) b (by rw [f.lim]; exact c) (d.imp fun _ _ => HEl.fwd f hi)
theorem HV.shows {P : Nat → Prop} {h : Hp} {v : EV} {l : List Hit} (H : HV P h v l) : Shows P h 7 v (rowPD l) := by
  cases H with
  | nil => exact .full 7
  | arr a b c d =>
    refine .inr ⟨_, _, 0, _, false, _, l.map Hit.pd, rfl, a, by simp, c, b, rfl, ?_⟩
    simp only [List.drop_zero, List.take_length]
    clear a
    rename_i els
    induction els generalizing l with
    | nil => cases l with
      | nil => trivial
      | cons _ _ => exact d.elim
    | cons el els ih => cases l with
      | nil => exact d.elim
      | cons x l =>
        obtain ⟨⟨sv, rv, rfl, q, r⟩, d⟩ := d
        exact ⟨⟨_, rfl, .plain 6, q, r, trivial⟩, ih d⟩

theorem app_rest {n : Nat} {w : EV} {ys : List (List EV)} {X : Hp} (hw : elsOf 3 w X = some ys) (hn : X.arr n 0 = some ⟨0, 3, true, 0, []⟩) (hb : ys.length < 1000000) : WA (appendTo 3 true 56 (.arr n 0 3 0 0 true) w X) fun v X' => elsOf 3 v X' = some ys ∧ Fwd [] X X' ∧ (∀ Y, lenOf 0 v Y = some ys.length) := by
  have hb2 : ys.length * 56 ≤ 140737488355328 := by omega
  by_cases he : ys = []
  · subst he
    refine ⟨.arr n 0 3 0 0 true, X, ?_, by simp [elsOf, hn], Fwd.refl _ _, fun Y => by simp [lenOf]⟩
    simp [appendTo, hw, hn]
  · refine ⟨.arr X.objs.length 0 3 0 ys.length false, X.new (.cells ⟨0, 3, true, 0, ys⟩), ?_, by simp [elsOf], (Fwd.refl _ _).new _, fun Y => by simp [lenOf]⟩
    simp [appendTo, hw, hn, he, hb2]
theorem app_in {q : Nat} {w : EV} {E ys : List (List EV)} {X : Hp} (hw : elsOf 3 w X = some ys) (hq : X.arr q 0 = some ⟨0, 3, true, 0, E⟩) (hl : X.lim ≤ q) (hb : E.length + ys.length < 1000000) :
    WA (appendTo 3 true 56 (.arr q 0 3 0 E.length false) w X) fun v X' => ∃ g, v = .arr q g 3 0 (E ++ ys).length false ∧ X'.arr q g = some ⟨g, 3, true, 0, E ++ ys⟩ ∧ Fwd [q] X X' := by
  have hb2 : (E.length + ys.length) * 56 ≤ 140737488355328 := by omega
  have lq := arr_lt hq
  by_cases he : ys = []
  · subst he
    refine ⟨.arr q 0 3 0 E.length false, X, ?_, 0, by simp, by simpa using hq, Fwd.refl _ _⟩
    simp at hb2
    simp [appendTo, hw, hq, hb2]
  · refine ⟨.arr q 1 3 0 (E.length + ys.length) false, X.setArr q ⟨1, 3, true, 0, E ++ ys⟩, ?_, 1, by simp, by simp [Hp.arr_set, lq], (Fwd.refl _ _).set _ (by simp)⟩
    simp [appendTo, hw, hq, he, hb2, hl]
/-- What is ahead, cut, and one more: a new array. -/
theorem app_full {v : EV} {Z : List (List EV)} {w : EV} {row : List EV} {X : Hp} (hw : elsOf 3 w X = some [row]) (hv : (v = .full [] ∧ Z = []) ∨ ∃ id g els, v = .arr id g 3 0 Z.length true ∧ X.arr id g = some ⟨g, 3, true, 0, els⟩ ∧ Z.length ≤ els.length ∧ Z = els.take Z.length) (hb : Z.length < 1000000) :
    appendTo 3 true 56 v w X = some (.arr X.objs.length 0 3 0 (Z ++ [row]).length false, X.new (.cells ⟨0, 3, true, 0, Z ++ [row]⟩)) := by
  have hb2 : (Z.length + 1) * 56 ≤ 140737488355328 := by omega
  rcases hv with ⟨rfl, rfl⟩ | ⟨id, g, els, rfl, ha, hl, hz⟩
  · simp [appendTo, hw, sized]
  · simp [appendTo, hw, ha, hl, hb2, ← hz]

/-- Of an out's matches: what is read, and cut. -/
theorem HV.cut {P : Nat → Prop} {h : Hp} {v : EV} {l : List Hit} (H : HV P h v l) (hb : l.length < 1000) : ∃ E, elsOf 3 v h = some E ∧ All2 (HEl P h) E l ∧ ∀ j, j ≤ l.length →
    (∃ w, sliceOf 3 v (some (eI j)) none none = some w ∧ elsOf 3 w h = some (E.drop j)) ∧
    ∃ u, sliceOf 3 v none (some (eI j)) (some (eI j)) = some u ∧ ((u = .full [] ∧ E.take j = []) ∨ ∃ id g els, u = .arr id g 3 0 (E.take j).length true ∧ h.arr id g = some ⟨g, 3, true, 0, els⟩ ∧ (E.take j).length ≤ els.length ∧ E.take j = els.take (E.take j).length) := by
  cases H with
  | nil =>
    refine ⟨[], by simp [elsOf, sized], trivial, fun j hj => ?_⟩
    have : j = 0 := by simpa using hj
    subst this
    refine ⟨?_, .full [], by simp [sliceOf, sized, bounds, upper, lower, bound, sliceEls], .inl ⟨rfl, rfl⟩⟩
    obtain ⟨w, w1, w2⟩ := els_slice (sz := 3) (v := .full []) (h := h) (els := []) (by simp [elsOf, sized]) (lo := some (eI ((0 : Nat) : Int))) (hi := none) (l := 0) (u := 0) (by simp [bounds, upper, lower, bound]) (by simp)
    exact ⟨w, w1, by simpa using w2⟩
  | @arr id g els hits a b c d =>
    have el := d.len
    refine ⟨els, by simp [elsOf, a], d, fun j hj => ⟨?_, ?_⟩⟩
    · obtain ⟨w, w1, w2⟩ := els_slice (sz := 3) (v := .arr id g 3 0 els.length false) (h := h) (els := els) (by simp [elsOf, a]) (lo := some (eI (j : Int))) (hi := none) (l := j) (u := els.length) (by simp [bounds, upper, lower, bound, show j ≤ els.length by omega]) (by omega)
      refine ⟨w, w1, ?_⟩
      rw [w2, List.take_of_length_le (by simp)]
    · have hl : (els.take j).length = j := by simp; omega
      have hjl : j ≤ els.length := by omega
      by_cases h0 : j = 0
      · subst h0
        exact ⟨.full [], by simp [sliceOf, bounds, upper, lower, bound], .inl ⟨rfl, rfl⟩⟩
      · refine ⟨.arr id g 3 0 j true, ?_, .inr ⟨id, g, els, by rw [hl], a, by rw [hl]; exact hjl, by rw [hl]⟩⟩
        simp [sliceOf, bounds, upper, lower, bound, hjl, Ne.symm h0]

theorem insert_ok {P : Nat → Prop} {f : Fr} {h : Hp} {Q : Ex → Fr → Hp → Prop} {ks : List Ct} {r k b j : Nat} {rows : List (List EV)} {hv0 lv : EV} {hits : List Hit} {x : Hit} {sv rv : EV}
    (g7 : f.get 7 = .arr r 0 4 0 3 false) (g9 : f.get 9 = eI k) (g10 : f.get 10 = .ptr b 0 0 0) (g11 : f.get 11 = eI j)
    (ar : h.arr r 0 = some ⟨0, 4, true, 0, rows⟩) (hlen : rows.length = 3) (hk : rows[k]? = some [hv0, lv, .full [], .full []]) (hv : HV P h hv0 hits) (hj : j ≤ hits.length) (hbig : hits.length < 1000)
    (ab : h.arr b 0 = some ⟨0, 3, true, 0, [[eI x.id, sv, rv]]⟩) (hs : Shows P h 6 sv (.list x.f.sets)) (hr : Shows P h 6 rv (.list (x.f.refs.map rPD)))
    (hlr : h.lim ≤ r) (hl : h.lim ≤ h.objs.length) (hP : ∀ y, h.objs.length ≤ y → P y) (hPr : ¬ P r)
    (hQ : ∀ f' h' hv', (∀ t ∈ [1, 2, 4, 7, 8], f'.get t = f.get t) → h'.arr r 0 = some ⟨0, 4, true, 0, rows.set k [hv', lv, .full [], .full []]⟩ → HV P h' hv' (hits.take j ++ x :: hits.drop j) → Fwd [r] h h' → Run C0 ks .normal f' h' Q) :
    Run C0 (.code cD1 :: .code cD2 :: ks) .normal f h Q := by
  have hk3 : k < 3 := by have := (List.getElem?_eq_some_iff.1 hk).1; omega
  have lr := arr_lt ar
  have lb := arr_lt ab
  obtain ⟨E, hE, hA, hcut⟩ := hv.cut hbig
  obtain ⟨⟨w, w1, w2⟩, u, u1, u2⟩ := hcut j hj
  have el := hA.len
  simp only [cD1, cD2]
  simp [g7, g9, g10, g11, ar, nl lr, hk, hk3, lk hl, w1]
  have F0 : Fwd [] h (h.new (.cells ⟨0, 3, true, 0, []⟩)) := (Fwd.refl _ _).new _
  refine PutA_of (app_rest (els_fwd w2 F0) (by simp) (by simp; omega)) ?_
  rintro rest h1 ⟨hr1, f1, -⟩
  have F1 : Fwd [] h h1 := F0.trans f1
  have n1 : h.objs.length < h1.objs.length := by have := f1.len; simp at this; omega
  have ar1 := F1.arr ar (by simp)
  have ab1 := F1.arr ab (by simp)
  have os : ones [eI x.id, sv, rv] = true := by simp [ones, hs.one.2, hr.one.2]
  simp [g7, g9, g10, g11, ar1, ab1, nl lr, nl lb, hk, hk3, lk (F1.limlen hl), u1, os]
  obtain ⟨h2, e2⟩ : ∃ X, X = h1.new (.cells ⟨0, 3, true, 0, [[eI x.id, sv, rv]]⟩) := ⟨_, rfl⟩
  rw [← e2]
  have F2 : Fwd [] h1 h2 := by rw [e2]; exact (Fwd.refl _ _).new _
  have n2 : h2.objs.length = h1.objs.length + 1 := by rw [e2]; simp
  have a2 : h2.arr h1.objs.length 0 = some ⟨0, 3, true, 0, [[eI x.id, sv, rv]]⟩ := by rw [e2]; simp
  have F02 := F1.trans F2
  have lE : (E.take j).length = j := by simp; omega
  refine PutA_eq (app_full (Z := E.take j) (row := [eI x.id, sv, rv]) (by simp [elsOf, a2]) (by
    rcases u2 with q | ⟨id, g, els, q1, q2, q3⟩
    · exact .inl q
    · exact .inr ⟨id, g, els, q1, F02.arr q2 (by simp), q3⟩) (by omega)) ?_
  simp
  obtain ⟨h3, e3⟩ : ∃ X, X = h2.new (.cells ⟨0, 3, true, 0, E.take j ++ [[eI x.id, sv, rv]]⟩) := ⟨_, rfl⟩
  rw [← e3]
  have F3 : Fwd [] h2 h3 := by rw [e3]; exact (Fwd.refl _ _).new _
  have a3 : h3.arr h2.objs.length 0 = some ⟨0, 3, true, 0, E.take j ++ [[eI x.id, sv, rv]]⟩ := by rw [e3]; simp
  have F03 := F02.trans F3
  have n3 : h3.objs.length = h2.objs.length + 1 := by rw [e3]; simp
  have key := app_in (els_fwd hr1 (F2.trans F3)) a3 (by rw [F03.lim]; omega) (by simp; omega)
  simp at key
  refine PutA_of key ?_
  rintro v h4 ⟨g, rfl, a4, f4⟩
  have F04 : Fwd [] h h4 := F03.trans' f4 fun y hy => .inr (by simp at hy; omega)
  have ar4 := F04.arr ar (by simp)
  have lr4 := arr_lt ar4
  have lim4 : h4.lim ≤ r := by rw [F04.lim]; exact hlr
  have hkl : k < rows.length := by omega
  have hk2 : rows[k] = [hv0, lv, .full [], .full []] := (List.getElem?_eq_some_iff.1 hk).2
  simp [g7, g9, g10, g11, ar4, hk, hk3, lim4, nl lr4, hlen, hk2]
  have F5 : Fwd [r] h4 (h4.setArr r ⟨0, 4, true, 0, rows.set k [.arr h2.objs.length g 3 0 (min j E.length + (E.length - j + 1)) false, lv, .full [], .full []]⟩) := (Fwd.refl _ _).set _ (by simp)
  have F05 := (F04.mono (ids' := [r]) (by simp)).trans F5
  refine hQ _ _ (.arr h2.objs.length g 3 0 (min j E.length + (E.length - j + 1)) false) (by simp) (by simp [Hp.arr_set, lr4]) ?_ F05
  have nr : ∀ y ∈ [r], ¬ P y := by simpa using hPr
  have hne : h2.objs.length ≠ r := by omega
  have le : min j E.length + (E.length - j + 1) = (E.take j ++ [eI x.id, sv, rv] :: E.drop j).length := by simp
  have A := hA.imp fun _ _ => HEl.fwd F05 nr
  have B : HEl P _ [eI x.id, sv, rv] x := ⟨sv, rv, rfl, hs.fwd F05 nr, hr.fwd F05 nr⟩
  have D : All2 _ (E.take j ++ [eI x.id, sv, rv] :: E.drop j) (hits.take j ++ x :: hits.drop j) := (A.take j).append (m' := x :: hits.drop j) ⟨B, A.drop j⟩
  have l5 := F05.lim
  rw [le] at D l5 ⊢
  exact .arr (by simpa [Hp.arr_set, hne] using a4) (hP _ (by omega)) (by rw [l5]; omega) D
end Dk.Q
