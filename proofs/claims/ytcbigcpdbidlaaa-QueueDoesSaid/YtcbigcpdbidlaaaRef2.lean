/- The reference's desk: what is asked of it. -/
import Derived.Test.YtcbigcpdbidlaaaRef
set_option linter.unusedVariables false
set_option linter.unusedSimpArgs false
set_option linter.unusedSectionVars false
namespace Dk.Q
open Go Dk

theorem find_cases (k : Int) (ls : List (Int × Line)) : (findL k ls = -1 ∧ ∀ y ∈ ls, y.1 ≠ k) ∨ ∃ a l b, ls = a ++ (k, l) :: b ∧ (∀ y ∈ a, y.1 ≠ k) ∧ findL k ls = a.length := by
  rcases split_line k ls with hno | ⟨a, l, b, rfl, hfr⟩
  · exact .inl ⟨findL_none hno, hno⟩
  · refine .inr ⟨a, l, b, rfl, hfr, findL_at (y := (k, l)) (by simp) rfl fun j hj y hy => ?_⟩
    rw [List.getElem?_append_left hj] at hy
    exact hfr y (List.mem_of_getElem? hy)
/-- What is read of one line. -/
theorem RefAt.line {h : Hp} {rid : Nat} {cf : Conf} {a b : List (Int × Line)} {k : Int} {l : Line} {qf : List Nat} {rs : List (EV × List Nat)} (H : RefAt h rid cf (a ++ (k, l) :: b) qf rs) : ∃ ra rv fp rb, rs = ra ++ (rv, fp) :: rb ∧ ra.length = a.length ∧ Own h 2 true rv (l.row.map Fnd.cells) fp ∧
    ∃ qv, h.arr rid 0 = some ⟨0, 8, true, 0, [cf.cells ++ [qv]]⟩ ∧ QOwn h qv (rEls (a ++ (k, l) :: b) rs) qf ∧ ∃ id g all, indexAddr 3 qv (eI a.length) = some (.ptr id g a.length 0) ∧ h.arr id g = some ⟨g, 3, true, 0, all⟩ ∧ a.length < all.length ∧ (∀ hh, all[a.length]'hh = [eI k, rv, eB l.lost]) ∧ all[a.length]? = some [eI k, rv, eB l.lost] ∧ qf = [id] ∧ h.lim ≤ id := by
  have hn : a.length < rs.length := by rw [H.len]; simp
  obtain ⟨qv, t, q⟩ := H.top
  have h1 : (a ++ (k, l) :: b)[a.length]? = some (k, l) := by simp
  have h2 : rs[a.length]? = some (rs[a.length].1, rs[a.length].2) := List.getElem?_eq_getElem hn
  refine ⟨rs.take a.length, rs[a.length].1, rs[a.length].2, rs.drop (a.length + 1), ?_, by simp; omega, H.rows _ _ _ _ _ h1 h2, qv, t, q, q.at_ (rEls_get h1 h2)⟩
  have : (rs[a.length].1, rs[a.length].2) = rs[a.length] := rfl
  rw [this, List.getElem_cons_drop, List.take_append_drop]

theorem els_fld {sz : Nat} {v : EV} {h : Hp} {els : List (List EV)} (he : elsOf sz v h = some els) {i : Nat} {el : List EV} (hi : els[i]? = some el) (hs : el.length = sz) {j : Nat} {e : EV} (hj : el[j]? = some e) (ho : EV.one e = true) :
    ∃ q q', indexAddr sz v (eI i) = some q ∧ fldAt j q = some q' ∧ loadAt false 1 q' h = some e := by
  obtain ⟨q, q1, q2⟩ := els_get he hi hs .i64
  have key : ∀ (cells : List EV) (o : Nat), el = (cells.drop o).take sz → o + sz ≤ cells.length → o + j + 1 ≤ cells.length ∧ (cells.drop (o + j)).take 1 = [e] := by
    intro cells o e1 e2
    have hl := (List.getElem?_eq_some_iff.1 hj).1
    have h2 : cells[o + j]? = some e := by
      rw [e1, List.getElem?_take, List.getElem?_drop] at hj
      split at hj
      · exact hj
      · cases hj
    have h3 := (List.getElem?_eq_some_iff.1 h2)
    refine ⟨by omega, ?_⟩
    rw [List.drop_eq_getElem_cons h3.1, h3.2]
    rfl
  have mkf : mk false [e] = some e := by simp [mk, ho]
  unfold loadAt at q2
  split at q2
  · rename_i id g k o
    split at q2
    · rename_i a ha
      split at q2
      · rename_i cells hc
        split at q2
        · rename_i hl
          have hel : el = (cells.drop o).take sz := by simpa [mk] using q2.symm
          obtain ⟨k1, k2⟩ := key cells o hel hl
          exact ⟨_, _, q1, rfl, by simp only [loadAt, ha, hc, if_pos k1, k2, mkf]⟩
        · cases q2
      · cases q2
    · cases q2
  · rename_i cs o
    split at q2
    · rename_i hl
      have hel : el = ((cs.map EV.p).drop o).take sz := by
        have : el = ((cs.drop o).take sz).map EV.p := by simpa [mk] using q2.symm
        rw [this, List.map_take, List.map_drop]
      obtain ⟨k1, k2⟩ := key (cs.map EV.p) o hel (by simpa using hl)
      have k1' : o + j + 1 ≤ cs.length := by simpa using k1
      refine ⟨_, _, q1, rfl, ?_⟩
      simp only [loadAt, if_pos k1']
      have : ((cs.drop (o + j)).take 1).map EV.p = [e] := by rw [List.map_take, List.map_drop]; exact k2
      rw [this, mkf]
    · cases q2
  · cases q2
theorem rwaiting_ok {h : Hp} {rid : Nat} {cf : Conf} {ls : List (Int × Line)} {qf : List Nat} {rs : List (EV × List Nat)} (H : RefAt h rid cf ls qf rs) (hb : ls.length < 1000000) (k : Int) : C0 n_rWaiting [.ptr rid 0 0 0, eI k] h = some (eI (waits k ls), h) := by
  refine call_loc noExt_mono (f := n_rWaiting) rfl rfl rfl fun h0 e0 el => ?_
  have hf := find_ok H hb k e0
  simp
  refine PutA_eq hf ?_
  rcases find_cases k ls with ⟨e, hno⟩ | ⟨a, l, b, rfl, hfr, e⟩
  · simp [e, Ends, waits, lookL_none hno]
  · obtain ⟨ra, rv, fp, rb, rfl, hla, O, qv, t, q, qid, g, all, p1, p2, p3, p4, p5, -⟩ := H.line
    have t0 := (Hp.arr_objs e0 rid 0).trans t
    have p2' := (Hp.arr_objs e0 qid g).trans p2
    have rl := own_lens O h0
    simp only [Conf.cells, List.cons_append, List.nil_append] at t0
    have hn0 : ¬ ((a.length : Int) < 0) := by omega
    simp [e, hn0, t0, p1, p2', p4, p5, rl, Ends, waits, lookL_some hfr]
theorem rlost_ok {h : Hp} {rid : Nat} {cf : Conf} {ls : List (Int × Line)} {qf : List Nat} {rs : List (EV × List Nat)} (H : RefAt h rid cf ls qf rs) (hb : ls.length < 1000000) (k : Int) : C0 n_rLost [.ptr rid 0 0 0, eI k] h = some (eB (isLost k ls), h) := by
  refine call_loc noExt_mono (f := n_rLost) rfl rfl rfl fun h0 e0 el => ?_
  have hf := find_ok H hb k e0
  simp
  refine PutA_eq hf ?_
  rcases find_cases k ls with ⟨e, hno⟩ | ⟨a, l, b, rfl, hfr, e⟩
  · simp [e, Ends, isLost, lookL_none hno]
  · obtain ⟨ra, rv, fp, rb, rfl, hla, O, qv, t, q, qid, g, all, p1, p2, p3, p4, p5, -⟩ := H.line
    have t0 := (Hp.arr_objs e0 rid 0).trans t
    have p2' := (Hp.arr_objs e0 qid g).trans p2
    simp only [Conf.cells, List.cons_append, List.nil_append] at t0
    simp [e, t0, p1, p2', p4, p5, Ends, isLost, lookL_some hfr]

structure HIAt (ls : List (Int × Line)) (l : Line) (acc : Int) (rid i : Nat) (h0 : Hp) (q : Nat) (f : Fr) (h : Hp) (j : Nat) : Prop where
  g0 : f.get 0 = .ptr rid 0 0 0
  g3 : f.get 3 = eI (acc + (allRefs (l.row.take j)).length)
  g4 : f.get 4 = eI i
  g5 : f.get 5 = eI j
  h : h = h0
  le : j ≤ l.row.length
  q : q = l.row.length - j
structure HOAt (ls : List (Int × Line)) (rid : Nat) (h0 : Hp) (q : Nat) (f : Fr) (h : Hp) (i : Nat) : Prop where
  g0 : f.get 0 = .ptr rid 0 0 0
  g3 : f.get 3 = eI (heldRefs (ls.take i)).length
  g4 : f.get 4 = eI i
  h : h = h0
  le : i ≤ ls.length
  q : q = ls.length - i
theorem rheld_ok {h : Hp} {rid : Nat} {cf : Conf} {ls : List (Int × Line)} {qf : List Nat} {rs : List (EV × List Nat)} (H : RefAt h rid cf ls qf rs) (F : Fit cf ls) (hq : ls.length ≤ 4) (ho : cf.o ≤ 4096) : C0 n_rHeld [.ptr rid 0 0 0] h = some (eI (heldRefs ls).length, h) := by
  refine call_loc noExt_mono (f := n_rHeld) rfl rfl rfl fun h0 e0 el => ?_
  obtain ⟨qv, t, q⟩ := H.top
  have t0 := (Hp.arr_objs e0 rid 0).trans t
  have ql := q.len h0
  rw [rEls_len H.len] at ql
  simp only [Conf.cells, List.cons_append, List.nil_append] at t0
  have hle := held_len F hq ho
  simp
  refine Run_loop (fun q f h' => ∃ i, HOAt ls rid h0 q f h' i) (n := ls.length) ⟨0, by simp, by simp [heldRefs], by simp, rfl, by omega, rfl⟩ ?_
  rintro q2 f2 h2 ⟨i, g0, g3, g4, rfl, le, hq2⟩
  by_cases hi : i < ls.length
  · obtain ⟨⟨k, l⟩, hy⟩ : ∃ y, ls[i]? = some y := ⟨_, List.getElem?_eq_getElem hi⟩
    obtain ⟨⟨rv, fp⟩, hr⟩ : ∃ y, rs[i]? = some y := ⟨_, List.getElem?_eq_getElem (by rw [H.len]; exact hi)⟩
    obtain ⟨qid, g, all, p1, p2, p3, p4, p5, -⟩ := q.at_ (rEls_get hy hr)
    have p2' := (Hp.arr_objs e0 qid g).trans p2
    have O := H.rows i k l rv fp hy hr
    have rl := own_lens O h2
    have re := (els_objs e0 2 rv).trans O.els
    have w1 : IntKind.i64.wrap ((i : Int) + 1) = (i : Int) + 1 := wrap64 (by omega) (by omega)
    have hl := (F (k, l) (List.mem_of_getElem? hy))
    have hl1 := hl.1
    have hl2 := allRefs_len hl.2
    simp only at hl1 hl2
    have tk : heldRefs (ls.take (i + 1)) = heldRefs (ls.take i) ++ allRefs l.row := by
      rw [List.take_add_one, hy]
      simp [heldRefs]
    have hpre : (heldRefs (ls.take i)).length ≤ (heldRefs ls).length := by
      conv => rhs; rw [← List.take_append_drop i ls]
      rw [held_append, List.length_append]
      omega
    simp [g0, g3, g4, t0, ql, hi]
    refine Run_loop (fun q f h' => ∃ j, HIAt ls l (heldRefs (ls.take i)).length rid i h2 q f h' j) (n := l.row.length) ⟨0, by simp, by simp [allRefs], by simp, by simp, rfl, by omega, rfl⟩ ?_
    rintro q3 f3 h3 ⟨j, k0, k3, k4, k5, rfl, jle, hq3⟩
    by_cases hj : j < l.row.length
    · obtain ⟨x, hx⟩ : ∃ x, l.row[j]? = some x := ⟨_, List.getElem?_eq_getElem hj⟩
      obtain ⟨z, z', z1, z2, z3⟩ := els_fld re (i := j) (el := x.cells) (by simp [hx]) rfl (j := 1) (e := .p (.list (x.refs.map rPD))) rfl rfl
      have w2 : IntKind.i64.wrap ((j : Int) + 1) = (j : Int) + 1 := wrap64 (by omega) (by omega)
      have tkr : allRefs (l.row.take (j + 1)) = allRefs (l.row.take j) ++ x.refs := by
        rw [List.take_add_one, hx]
        simp [allRefs]
      have hle2 : (allRefs (l.row.take (j + 1))).length ≤ (allRefs l.row).length := by
        conv => rhs; rw [← List.take_append_drop (j + 1) l.row]
        simp only [allRefs, List.flatMap_append, List.length_append]
        omega
      rw [tkr, List.length_append] at hle2
      have w3 : IntKind.i64.wrap (((heldRefs (ls.take i)).length : Int) + (allRefs (l.row.take j)).length + x.refs.length) = ((heldRefs (ls.take i)).length : Int) + (allRefs (l.row.take j)).length + x.refs.length := wrap64 (by omega) (by omega)
      simp [k0, k3, k4, k5, t0, p1, p2', p4, p5, rl, hj, z1, z2, z3, w2, w3]
      refine ⟨l.row.length - (j + 1), by omega, j + 1, by simp, ?_, by simp, by simp, rfl, by omega, rfl⟩
      rw [tkr]
      simp
      omega
    · obtain rfl : j = l.row.length := by omega
      rw [List.take_length] at k3
      simp [k0, k3, k4, k5, t0, p1, p2', p4, p5, rl, w1]
      refine ⟨ls.length - (i + 1), by omega, i + 1, by simp, by rw [tk]; simp, by simp, rfl, by omega, rfl⟩
  · obtain rfl : i = ls.length := by omega
    rw [List.take_length] at g3
    simp [g0, g3, g4, t0, ql, Ends]
end Dk.Q
