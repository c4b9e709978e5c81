/- The reference's desk, in D's memory. -/
import Derived.Test.YtcbigcpdbidlaaaHeld
import Derived.Test.YtcbigcpdbidlaaaActs
import Derived.Test.YtcbigcpdbidlaaaSameA
set_option linter.unusedVariables false
set_option linter.unusedSimpArgs false
set_option linter.unusedSectionVars false
namespace Dk.Q
open Go Dk

/-- The queries' slice: it is its own; nothing of it is shared. -/
inductive QOwn (h : Hp) : EV → List (List EV) → List Nat → Prop
  | nil : QOwn h (.full []) [] []
  | arr {id g n : Nat} {f : Bool} {all els : List (List EV)} : h.arr id g = some ⟨g, 3, true, 0, all⟩ → h.lim ≤ id → n = els.length → els.length ≤ all.length → els = all.take els.length → QOwn h (.arr id g 3 0 n f) els [id]
theorem QOwn.fwd {h h' : Hp} {v : EV} {els : List (List EV)} {fp ids : List Nat} (H : QOwn h v els fp) (f : Fwd ids h h') (hn : ∀ x ∈ fp, x ∉ ids) : QOwn h' v els fp := by
  cases H with
  | nil => exact .nil
  | arr h1 h2 h3 h4 h5 => exact .arr (f.arr h1 (hn _ (by simp))) (by rw [f.lim]; exact h2) h3 h4 h5
theorem QOwn.els {h : Hp} {v : EV} {els : List (List EV)} {fp : List Nat} (H : QOwn h v els fp) : elsOf 3 v h = some els := by
  cases H with
  | nil => simp [elsOf, sized]
  | @arr id g n f all els h1 h2 h3 h4 h5 =>
    subst h3
    simp [elsOf, h1, h4, ← h5]
theorem QOwn.len {h : Hp} {v : EV} {els : List (List EV)} {fp : List Nat} (H : QOwn h v els fp) (X : Hp) : lenOf 0 v X = some els.length := by
  cases H with
  | nil => rfl
  | arr h1 h2 h3 h4 h5 => simp [lenOf, h3]
theorem QOwn.lt {h : Hp} {v : EV} {els : List (List EV)} {fp : List Nat} (H : QOwn h v els fp) : ∀ x ∈ fp, x < h.objs.length := by
  cases H with
  | nil => intro x hx; cases hx
  | arr h1 h2 h3 h4 h5 => intro x hx; simp at hx; subst hx; exact arr_lt h1
theorem QOwn.one {h : Hp} {v : EV} {els : List (List EV)} {fp : List Nat} (H : QOwn h v els fp) : v.cells = [v] ∧ EV.one v = true := by
  cases H <;> exact ⟨rfl, rfl⟩
/-- Elements are added. -/
theorem QOwn.append {h : Hp} {v x : EV} {els ys : List (List EV)} {fp : List Nat} (H : QOwn h v els fp) (hx : elsOf 3 x h = some ys) (hb : els.length + ys.length < 1000000) (hl : h.lim ≤ h.objs.length) :
    WA (appendTo 3 true 40 v x h) fun v' h' => ∃ fp', QOwn h' v' (els ++ ys) fp' ∧ Fwd fp h h' ∧ Grown fp h fp' := by
  have hb2 : (els.length + ys.length) * 40 ≤ 140737488355328 := by omega
  cases H with
  | nil =>
    by_cases he : ys = []
    · subst he
      exact ⟨.full [], h, by simp [appendTo, hx], [], .nil, Fwd.refl _ _, fun y hy => by cases hy⟩
    · simp at hb2
      refine ⟨.arr h.objs.length 0 3 0 ys.length false, h.new (.cells ⟨0, 3, true, 0, ys⟩), by simp [appendTo, hx, he, sized, hb2], [h.objs.length], ?_, (Fwd.refl _ _).new _, fun y hy => .inr (by simp at hy; omega)⟩
      exact .arr (all := ys) (by simp) (by simpa using hl) (by simp) (by simp) (by simp)
  | @arr id g n f all els h1 h2 h3 h4 h5 =>
    subst h3
    have lid := arr_lt h1
    by_cases he : ys = []
    · subst he
      simp at hb2
      refine ⟨.arr id g 3 0 els.length f, h, by simp [appendTo, hx, h1, h4, hb2], [id], ?_, Fwd.refl _ _, fun y hy => .inl hy⟩
      rw [List.append_nil]
      exact .arr h1 h2 rfl h4 h5
    · cases f with
      | true =>
        refine ⟨.arr h.objs.length 0 3 0 (els.length + ys.length) false, h.new (.cells ⟨0, 3, true, 0, els ++ ys⟩), by simp [appendTo, hx, h1, h4, hb2, he, ← h5], [h.objs.length], ?_, (Fwd.refl _ _).new _, fun y hy => .inr (by simp at hy; omega)⟩
        exact .arr (all := els ++ ys) (by simp) (by simpa using hl) (by simp) (by simp) (by rw [List.take_length])
      | false =>
        refine ⟨.arr id (g + 1) 3 0 (els.length + ys.length) false, h.setArr id ⟨g + 1, 3, true, 0, els ++ ys⟩, by simp [appendTo, hx, h1, h4, hb2, he, ← h5, h2], [id], ?_, (Fwd.refl _ _).set _ (by simp), fun y hy => .inl hy⟩
        exact .arr (all := els ++ ys) (by simp [Hp.arr_set, lid]) (by simpa using h2) (by simp) (by simp) (by rw [List.take_length])

/-- An element's cell is written. -/
theorem QOwn.set {h : Hp} {v : EV} {els : List (List EV)} {fp : List Nat} (H : QOwn h v els fp) {i : Nat} (hi : i < els.length) (row : List EV) : ∃ id g off all, indexAddr 3 v (eI i) = some (.ptr id g i 0) ∧ fp = [id] ∧ h.arr id g = some ⟨g, 3, true, 0, all⟩ ∧ all[i]? = els[i]? ∧ h.lim ≤ id ∧ off = i ∧ QOwn (h.setArr id ⟨g, 3, true, 0, all.set i row⟩) v (els.set i row) fp := by
  cases H with
  | nil => simp at hi
  | @arr id g n f all els h1 h2 h3 h4 h5 =>
    subst h3
    have lid := arr_lt h1
    refine ⟨id, g, i, all, ?_, rfl, h1, ?_, h2, rfl, .arr (all := all.set i row) (by simp [Hp.arr_set, lid]) (by simpa using h2) (by simp) (by simpa using h4) ?_⟩
    · simp [indexAddr, idx_nat, hi]
    · rw [h5, List.getElem?_take, if_pos]
      simpa using hi
    · rw [List.length_set, List.take_set, ← h5]

theorem QOwn.at_ {h : Hp} {v : EV} {els : List (List EV)} {fp : List Nat} (H : QOwn h v els fp) {i : Nat} {el : List EV} (hi : els[i]? = some el) : ∃ id g all, indexAddr 3 v (eI i) = some (.ptr id g i 0) ∧ h.arr id g = some ⟨g, 3, true, 0, all⟩ ∧ i < all.length ∧ (∀ hh, all[i]'hh = el) ∧ all[i]? = some el ∧ fp = [id] ∧ h.lim ≤ id := by
  have hl := (List.getElem?_eq_some_iff.1 hi).1
  obtain ⟨id, g, off, all, e1, e2, e3, e4, e5, -⟩ := H.set hl el
  have h2 : all[i]? = some el := e4.trans hi
  exact ⟨id, g, all, e1, e3, (List.getElem?_eq_some_iff.1 h2).1, fun hh => (List.getElem?_eq_some_iff.1 h2).2, h2, e2, e5⟩

theorem own_lens {h : Hp} {sz : Nat} {ag : Bool} {v : EV} {els : List (List EV)} {fp : List Nat} (O : Own h sz ag v els fp) (X : Hp) : lenOf 0 v X = some els.length := by
  have e := O.len
  cases O with
  | nil => rfl
  | arr => simpa [lenOf] using e
def rEls (ls : List (Int × Line)) (rs : List (EV × List Nat)) : List (List EV) := List.zipWith (fun l r => [eI l.1, r.1, eB l.2.lost]) ls rs
def rOwn (rid : Nat) (qf : List Nat) (rs : List (EV × List Nat)) : List Nat := rid :: (qf ++ rs.flatMap Prod.snd)
structure RefAt (h : Hp) (rid : Nat) (cf : Conf) (ls : List (Int × Line)) (qf : List Nat) (rs : List (EV × List Nat)) : Prop where
  top : ∃ qv, h.arr rid 0 = some ⟨0, 8, true, 0, [cf.cells ++ [qv]]⟩ ∧ QOwn h qv (rEls ls rs) qf
  len : rs.length = ls.length
  rows : ∀ (i : Nat) (k : Int) (l : Line) (rv : EV) (fp : List Nat), ls[i]? = some (k, l) → rs[i]? = some (rv, fp) → Own h 2 true rv (l.row.map Fnd.cells) fp
  dis : (rOwn rid qf rs).Nodup
  lim : h.lim ≤ rid
theorem rEls_len {ls : List (Int × Line)} {rs : List (EV × List Nat)} (h : rs.length = ls.length) : (rEls ls rs).length = ls.length := by simp [rEls, h]
theorem rEls_get {ls : List (Int × Line)} {rs : List (EV × List Nat)} {i : Nat} {k : Int} {l : Line} {rv : EV} {fp : List Nat} (h1 : ls[i]? = some (k, l)) (h2 : rs[i]? = some (rv, fp)) : (rEls ls rs)[i]? = some [eI k, rv, eB l.lost] := by
  simp [rEls, List.getElem?_zipWith, h1, h2]
theorem RefAt.lt {h : Hp} {rid : Nat} {cf : Conf} {ls : List (Int × Line)} {qf : List Nat} {rs : List (EV × List Nat)} (H : RefAt h rid cf ls qf rs) : ∀ x ∈ rOwn rid qf rs, x < h.objs.length := by
  obtain ⟨qv, t, q⟩ := H.top
  intro x hx
  simp only [rOwn, List.mem_cons, List.mem_append, List.mem_flatMap] at hx
  rcases hx with rfl | hx | ⟨p, hp, hx⟩
  · exact arr_lt t
  · exact q.lt x hx
  · obtain ⟨i, hi, e⟩ := List.mem_iff_getElem.1 hp
    have hi' : i < ls.length := by rw [← H.len]; exact hi
    exact (H.rows i ls[i].1 ls[i].2 p.1 p.2 (by rw [List.getElem?_eq_getElem hi']) (by rw [List.getElem?_eq_getElem hi, e])).lt x hx
theorem RefAt.fwd {h h' : Hp} {rid : Nat} {cf : Conf} {ls : List (Int × Line)} {qf : List Nat} {rs : List (EV × List Nat)} (H : RefAt h rid cf ls qf rs) {ids : List Nat} (f : Fwd ids h h') (hi : ∀ x ∈ ids, x ∉ rOwn rid qf rs) : RefAt h' rid cf ls qf rs := by
  obtain ⟨⟨qv, t, q⟩, l, r, d, lm⟩ := H
  refine ⟨⟨qv, f.arr t fun z => hi _ z (by simp [rOwn]), q.fwd f fun x hx z => hi _ z (by simp [rOwn, hx])⟩, l, fun i k l rv fp h1 h2 => (r i k l rv fp h1 h2).fwd f fun x hx z => hi _ z ?_, d, by rw [f.lim]; exact lm⟩
  simp only [rOwn, List.mem_cons, List.mem_append, List.mem_flatMap]
  exact .inr (.inr ⟨_, List.mem_of_getElem? h2, hx⟩)

/-- Where a query stands. -/
def findL (k : Int) (ls : List (Int × Line)) : Int := match ls.findIdx? (fun y => decide (y.1 = k)) with | some i => i | none => -1
structure FAt (k : Int) (ls : List (Int × Line)) (rid : Nat) (h0 : Hp) (q : Nat) (f : Fr) (h : Hp) (i : Nat) : Prop where
  g0 : f.get 0 = .ptr rid 0 0 0
  g1 : f.get 1 = eI k
  g5 : f.get 5 = eI i
  h : h = h0
  le : i ≤ ls.length
  q : q = ls.length - i
  no : ∀ j, j < i → ∀ y, ls[j]? = some y → y.1 ≠ k
theorem findL_at {k : Int} {ls : List (Int × Line)} {i : Nat} {y : Int × Line} (h : ls[i]? = some y) (e : y.1 = k) (no : ∀ j, j < i → ∀ y, ls[j]? = some y → y.1 ≠ k) : findL k ls = i := by
  have : ls.findIdx? (fun y => decide (y.1 = k)) = some i := by
    rw [List.findIdx?_eq_some_iff_getElem]
    have hl := (List.getElem?_eq_some_iff.1 h).1
    refine ⟨hl, by simp [(List.getElem?_eq_some_iff.1 h).2, e], fun j hj => ?_⟩
    have := no j hj _ (List.getElem?_eq_getElem (by omega))
    simpa using this
  simp [findL, this]
theorem findL_none {k : Int} {ls : List (Int × Line)} (no : ∀ y ∈ ls, y.1 ≠ k) : findL k ls = -1 := by
  have : ls.findIdx? (fun y => decide (y.1 = k)) = none := by
    rw [List.findIdx?_eq_none_iff]
    intro y hy
    simpa using no y hy
  simp [findL, this]
theorem find_ok {h : Hp} {rid : Nat} {cf : Conf} {ls : List (Int × Line)} {qf : List Nat} {rs : List (EV × List Nat)} (H : RefAt h rid cf ls qf rs) (hb : ls.length < 1000000) (k : Int) {h1 : Hp} (e1 : h1.objs = h.objs) : C0 n_qfind [.ptr rid 0 0 0, eI k] h1 = some (eI (findL k ls), h1) := by
  refine call_loc noExt_mono (f := n_qfind) rfl rfl rfl fun h0 e0' el => ?_
  have e0 := e0'.trans e1
  obtain ⟨qv, t, q⟩ := H.top
  have t0 := (Hp.arr_objs e0 rid 0).trans t
  have q0 := (els_objs e0 3 qv).trans q.els
  have ql := q.len h0
  rw [rEls_len H.len] at ql
  simp only [Conf.cells, List.cons_append, List.nil_append] at t0
  simp
  refine Run_loop (fun q f h' => ∃ i, FAt k ls rid h0 q f h' i) (n := ls.length) ⟨0, by simp, by simp, by simp, rfl, by omega, rfl, fun j hj => by omega⟩ ?_
  rintro q2 f2 h2 ⟨i, g0, g1, g5, rfl, le, hq, no⟩
  by_cases hi : i < ls.length
  · obtain ⟨⟨k', l⟩, hy⟩ : ∃ y, ls[i]? = some y := ⟨_, List.getElem?_eq_getElem hi⟩
    obtain ⟨⟨rv, fp⟩, hr⟩ : ∃ y, rs[i]? = some y := ⟨_, List.getElem?_eq_getElem (by rw [H.len]; exact hi)⟩
    obtain ⟨qid, g, all, p1, p2, p3, p4, p5, -⟩ := q.at_ (rEls_get hy hr)
    have p2' := (Hp.arr_objs e0 qid g).trans p2
    have lq := arr_lt p2'
    have w1 : IntKind.i64.wrap ((i : Int) + 1) = (i : Int) + 1 := wrap64 (by omega) (by omega)
    simp [g0, g1, g5, t0, ql, hi, p1, p2', p4, p5]
    by_cases hk : k' = k
    · simp [hk, g5, Ends, findL_at hy hk no]
    · simp [hk, g5, w1]
      refine ⟨ls.length - (i + 1), by omega, i + 1, by simp [g0], by simp [g1], by simp, rfl, by omega, rfl, fun j hj y hjy => ?_⟩
      by_cases e : j = i
      · subst e; rw [hy] at hjy; cases hjy; exact hk
      · exact no j (by omega) y hjy
  · obtain rfl : i = ls.length := by omega
    have hn : findL k ls = -1 := findL_none fun y hy => by
      obtain ⟨j, hj, rfl⟩ := List.mem_iff_getElem.1 hy
      exact no j hj _ (List.getElem?_eq_getElem hj)
    simp [g0, g1, g5, t0, ql, Ends, hn]
end Dk.Q
