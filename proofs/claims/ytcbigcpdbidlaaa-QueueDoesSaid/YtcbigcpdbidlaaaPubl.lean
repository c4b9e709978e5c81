/- publish: what comes of an event's hits. -/
import Derived.Test.YtcbigcpdbidlaaaLost3
set_option linter.unusedVariables false
set_option linter.unusedSimpArgs false
set_option linter.unusedSectionVars false
namespace Dk.Q
open Go Dk

/-- Rows are laid out. -/
structure RowsAt (h0 : Hp) (outs : List OutV) (b3 b4 b7 b8 r : Nat) (c : Cmd) (v6 : EV) (k : Nat) (f : Fr) (h : Hp) (i : Nat) : Prop where
  le : i ≤ outs.length
  k : k = outs.length - i
  g2 : f.get 2 = .p (.list (outs.map OutV.pd))
  g3 : f.get 3 = .ptr b3 0 0 0
  g4 : f.get 4 = .ptr b4 0 0 0
  g6 : f.get 6 = v6
  g7 : f.get 7 = .ptr b7 0 0 0
  g8 : f.get 8 = .ptr b8 0 0 0
  g9 : f.get 9 = .arr r 0 1 0 outs.length false
  g23 : f.get 23 = .p (.list (outs.map OutV.pd))
  g24 : f.get 24 = eI outs.length
  g25 : f.get 25 = eI i
  fwd : Fwd [r] h0 h
  ar : h.arr r 0 = some ⟨0, 1, false, 0, ((outs.take i).map fun o => [.p (rowPD o.hits)]) ++ List.replicate (outs.length - i) [.full []]⟩
theorem pub_rows {id idm : Nat} {ps : List (Nat × List Nat)} {cf : Conf} {ls : List (Int × Line)} {c : Cmd} {outs : List OutV} {h : Hp} (H : DeskAt h id idm ps ⟨cf, ls⟩) (hl : h.lim ≤ h.objs.length) (hb : outs.length < 1000000) (h0 : 0 < outs.length) {B : Nat}
    (hB : ∀ x ∈ mergeF (total (outs.map OutV.hits)) (outs.map OutV.hits), x.f.refs.length ≤ B) (hbig : ((mergeF (total (outs.map OutV.hits)) (outs.map OutV.hits)).length + 1) * B < 1000000) (ho : cf.o ≤ 4096) (hrow : ∀ y ∈ ls, (y.2.row.length : Int) ≤ cf.o) (hlost : ∀ o ∈ outs, o.lost.length < 1000000) {K : EV → Hp → Prop}
    (hK : ∀ v fr h' ls' ls'' R ps', DeskAt h' id idm ps' ⟨cf, ls''⟩ → HitsDo cf.o (mergeF (total (outs.map OutV.hits)) (outs.map OutV.hits)) ls ls' R → MarksDo (outs.flatMap OutV.lost) ls' ls'' → Own h' 2 true v (refCells (R ++ [(c.slot, c.gen)])) fr → Fwd (own id idm ps) h h' →
      (∀ y ∈ own id idm ps', y ∈ own id idm ps ∨ h.objs.length ≤ y) → (∀ y ∈ fr, (y ∈ own id idm ps ∨ h.objs.length ≤ y) ∧ y ∉ own id idm ps') → (∀ y ∈ ls'', (y.2.row.length : Int) ≤ cf.o) → K v h') :
    WA (C0 n_publish [.ptr id 0 0 0, .agg c.cells, .p (.list (outs.map OutV.pd))] h) K := by
  refine call_W noExt_mono (f := n_publish) rfl rfl ?_
  have hb2 : 0 ≤ (outs.length : Int) ∧ (outs.length : Int) * 24 ≤ 140737488355328 ∧ (outs.length : Int) < 9223372036854775808 := by omega
  simp [Cmd.cells, ones, lk hl, hb2]
  obtain ⟨H0, e0⟩ : ∃ H0, H0 = ((((((h.new (.cells ⟨0, 1, false, 0, [[.ptr id 0 0 0]]⟩)).new (.cells ⟨0, 14, true, 0, [[eI c.kind, eI c.id, eI c.n, eI c.t, eI c.k, eI c.a, eI c.b, eI c.c, eI c.d, eI c.slot, eI c.gen, .p (.list c.tab), eI c.ta, eB c.tb]]⟩)).new (.cells ⟨0, 2, true, 0, []⟩)).new (.cells ⟨0, 1, false, 0, [[.full []]]⟩)).new (.cells ⟨0, 1, false, 0, [[.nilf]]⟩)).setArr (h.objs.length + 4) ⟨0, 1, false, 0, [[.fn (.func n_publish1) [] [.ptr (h.objs.length + 3) 0 0 0]]]⟩).new (.cells ⟨0, 1, false, 0, List.replicate outs.length [.full []]⟩) := ⟨_, rfl⟩
  rw [← e0]
  have F0 : Fwd [] h H0 := by rw [e0]; repeat first | exact Fwd.refl _ _ | refine Fwd.new ?_ _ | refine Fwd.set ?_ _ (.inr (by omega))
  have len0 : H0.objs.length = h.objs.length + 6 := by rw [e0]; simp
  have lim0 : H0.lim = h.lim := F0.lim
  have s3 : H0.arr h.objs.length 0 = some ⟨0, 1, false, 0, [[.ptr id 0 0 0]]⟩ := by rw [e0]; simp [Hp.arr_set]
  have s4 : H0.arr (h.objs.length + 1) 0 = some ⟨0, 14, true, 0, [c.cells]⟩ := by rw [e0]; simp [Hp.arr_set, Cmd.cells]
  have s6 : H0.arr (h.objs.length + 2) 0 = some ⟨0, 2, true, 0, []⟩ := by rw [e0]; simp [Hp.arr_set]
  have s7 : H0.arr (h.objs.length + 3) 0 = some ⟨0, 1, false, 0, [[.full []]]⟩ := by rw [e0]; simp [Hp.arr_set]
  have s8 : H0.arr (h.objs.length + 4) 0 = some ⟨0, 1, false, 0, [[.fn (.func n_publish1) [] [.ptr (h.objs.length + 3) 0 0 0]]]⟩ := by rw [e0]; simp [Hp.arr_set]
  have s9 : H0.arr (h.objs.length + 5) 0 = some ⟨0, 1, false, 0, List.replicate outs.length [.full []]⟩ := by rw [e0]; simp [Hp.arr_set]
  clear e0
  refine Run_loop (fun k f hh => ∃ i, RowsAt H0 outs h.objs.length (h.objs.length + 1) (h.objs.length + 3) (h.objs.length + 4) (h.objs.length + 5) c (.arr (h.objs.length + 2) 0 2 0 0 false) k f hh i) (n := outs.length) ?_ ?_
  · exact ⟨0, by omega, rfl, by simp, by simp, by simp, by simp, by simp, by simp, by simp, by simp, by simp, by simp, Fwd.refl _ _, by simpa using s9⟩
  rintro k f hh ⟨i, I⟩
  have ar := I.ar
  by_cases hi : (i : Int) < outs.length
  · have hi' : i < outs.length := by omega
    obtain ⟨o, ho⟩ : ∃ o, outs[i]? = some o := ⟨_, List.getElem?_eq_getElem hi'⟩
    have ho2 : outs[i] = o := (List.getElem?_eq_some_iff.1 ho).2
    have lr := arr_lt ar
    have lh : hh.lim ≤ hh.objs.length := by have := I.fwd.lim; have := I.fwd.len; omega
    have lh5 : hh.lim ≤ h.objs.length + 5 := by have := I.fwd.lim; omega
    have hrep : List.replicate (outs.length - i) [EV.full []] = [EV.full []] :: List.replicate (outs.length - (i + 1)) [EV.full []] := by
      rw [show outs.length - i = (outs.length - (i + 1)) + 1 by omega, List.replicate_succ]
    rw [hrep] at ar
    have hlA : ((outs.take i).map fun o => [EV.p (rowPD o.hits)]).length = i := by simp; omega
    have hget : (((outs.take i).map fun o => [EV.p (rowPD o.hits)]) ++ [EV.full []] :: List.replicate (outs.length - (i + 1)) [EV.full []])[i]? = some [EV.full []] := by
      rw [List.getElem?_append_right (by omega), hlA]; simp
    have hset : (((outs.take i).map fun o => [EV.p (rowPD o.hits)]) ++ [EV.full []] :: List.replicate (outs.length - (i + 1)) [EV.full []]).set i [EV.p (rowPD o.hits)] = ((outs.take (i + 1)).map fun o => [EV.p (rowPD o.hits)]) ++ List.replicate (outs.length - (i + 1)) [EV.full []] := by
      rw [List.set_append_right _ _ (by omega), hlA, List.take_add_one, ho]
      simp
    have w1 : IntKind.i64.wrap ((i : Int) + 1) = (i : Int) + 1 := wrap64 (by omega) (by omega)
    generalize hA : ((outs.take i).map fun o => [EV.p (rowPD o.hits)]) ++ [EV.full []] :: List.replicate (outs.length - (i + 1)) [EV.full []] = A at ar hget hset
    simp [I.g2, I.g3, I.g4, I.g6, I.g7, I.g8, I.g9, I.g23, I.g24, I.g25, hi, hi', ho2, OutV.pd, ones, lk lh, nl lr, ar, hget, lh5, hset, w1]
    refine ⟨_, by rw [I.k]; omega, i + 1, by omega, rfl, by simp, by simp, by simp, by simp, by simp, by simp, by simp, by simp, by simp, by simp, ?_, by simp [Hp.arr_set, nl lr]⟩
    exact (((I.fwd.new _).set _ (.inr (by have := I.fwd.len; omega))).set _ (.inl (by simp)))
  · have hin : i = outs.length := by have := I.le; omega
    subst hin
    have lr := arr_lt ar
    have lh : hh.lim ≤ hh.objs.length := by have := I.fwd.lim; have := I.fwd.len; omega
    have ar' : hh.arr (h.objs.length + 5) 0 = some ⟨0, 1, false, 0, (outs.map OutV.hits).map fun l => [.p (rowPD l)]⟩ := by rw [ar]; simp
    simp [I.g2, I.g3, I.g4, I.g6, I.g7, I.g8, I.g9, I.g23, I.g24, I.g25]
    refine PutA_of (merge_ok (rv := .arr (h.objs.length + 5) 0 1 0 outs.length false) ⟨rfl, rfl⟩ lh) ?_
    rintro _ h1 ⟨rfl, m1, m2, m3, m4⟩
    simp
    have FH : Fwd [] h hh := F0.trans' I.fwd (fun y hy => .inr (by simp at hy; omega))
    have F1 : Fwd [] h h1 := FH.trans m3
    refine Run_range rfl fun h2 hY f2 hlen2 => ?_
    have F2 : Fwd [] h h2 := F1.trans f2
    have nr : ∀ y : Nat, y < h.objs.length + 5 → y ∉ [h.objs.length + 5] := fun y hy q => by simp at q; omega
    have t3 := f2.arr (m3.arr (I.fwd.arr s3 (nr _ (by omega))) (by simp)) (by simp)
    have t7 := f2.arr (m3.arr (I.fwd.arr s7 (nr _ (by omega))) (by simp)) (by simp)
    have t8 := f2.arr (m3.arr (I.fwd.arr s8 (nr _ (by omega))) (by simp)) (by simp)
    have t9 := f2.arr (m3.arr ar' (by simp)) (by simp)
    have tm1 := f2.arr m1 (by simp)
    have tm2 := f2.arr m2 (by simp)
    have l1 : h.objs.length + 6 ≤ h1.objs.length := by have := I.fwd.len; have := m3.len; omega
    have own_lt := H.lt
    have I0 : PubAt cf ls id idm h.objs.length (h.objs.length + 3) (h.objs.length + 4) h1.objs.length B (mask [3, 8] [(37, EV.fn (Fn.func n_Merge1) [] [EV.ptr (hh.objs.length + 1) 0 0 0, EV.ptr hh.objs.length 0 0 0]), (36, EV.arr (h.objs.length + 5) 0 1 0 outs.length false), (26, EV.p (PD.bool false)), (2, EV.p (PD.list (List.map OutV.pd outs))), (3, EV.ptr h.objs.length 0 0 0), (4, EV.ptr (h.objs.length + 1) 0 0 0), (6, EV.arr (h.objs.length + 2) 0 2 0 0 false), (7, EV.ptr (h.objs.length + 3) 0 0 0), (8, EV.ptr (h.objs.length + 4) 0 0 0), (9, EV.arr (h.objs.length + 5) 0 1 0 outs.length false), (23, EV.p (PD.list (List.map OutV.pd outs))), (24, eI outs.length), (25, eI outs.length)])
        (mergeF (total (outs.map OutV.hits)) (outs.map OutV.hits)) 0 ((own id idm ps ++ [h.objs.length + 3]) ++ [h.objs.length, h.objs.length + 4, h1.objs.length]) h2 := by
      refine ⟨⟨ls, ps, [], .full [], [], rfl, H.fwd F2 (by simp), .nil, t7, .nil, by simp, hrow, ?_, ?_⟩, t3, t8, hY, by rw [F2.lim]; omega, by rw [F2.lim]; omega, F2.limlen hl⟩
      · refine List.nodup_append.2 ⟨H.dis, by simp, fun y hy z hz e => ?_⟩
        simp at hz
        have := own_lt y hy
        omega
      · intro y hy
        rcases List.mem_append.1 hy with q | q
        · have := own_lt y q
          exact ⟨by omega, by omega, by omega⟩
        · simp at q
          exact ⟨by omega, by omega, by omega⟩
    refine (merge1_ok (rows := outs.map OutV.hits) (N := total (outs.map OutV.hits)) (r0 := h.objs.length + 5) (by simpa using tm2) tm1 t9 (by simpa using h0) (by simpa using hb) (F2.limlen hl) (Nat.le_refl _) (pub_rounds (ls0 := ls) (by simp [mask]) (by simp [mask]) hB hbig ho) I0).mono ?_
    rintro _ h3 ⟨fp', f3, g3, J | J⟩
    · refine ⟨_, .normal, J.y, rfl, fun h4 f4 hlen4 => ?_⟩
      simp
      obtain ⟨ls', ps', R, v, fr, rfl, D1, D2, D3, D4, D5, D6, D7, D8⟩ := J.is
      rw [List.take_of_length_le (by simp)] at D2
      have nY : ∀ y ∈ own id idm ps' ++ (h.objs.length + 3) :: fr, y ∉ [h1.objs.length] := fun y hy q => by simp at q; exact (D8 y hy).2.2 q
      have E1 := D1.fwd f4 (fun y hy q => nY y (List.mem_append_left _ q) hy)
      have n3o : h.objs.length ∉ own id idm ps' := fun q => (D8 _ (List.mem_append_left _ q)).1 rfl
      have h3n : h.objs.length ∉ [h1.objs.length] := by simp; omega
      have F4 : Fwd (own id idm ps) h h4 := by
        refine ((F2.mono (ids' := own id idm ps) (by simp)).trans' f3 fun y hy => ?_).trans' f4 fun y hy => .inr (by simp at hy; omega)
        simp at hy
        rcases hy with q | q | q | q | q
        · exact .inl q
        all_goals exact .inr (by omega)
      have s4' := f4.arr (f3.arr (f2.arr (m3.arr (I.fwd.arr s4 (nr _ (by omega))) (by simp)) (by simp)) (by
        intro q
        simp at q
        rcases q with q | q
        · have := own_lt _ q; omega
        · omega)) (by simp; omega)
      refine outer_ok E1 (F4.limlen hl) (b3 := h.objs.length) rfl (f4.arr J.a3 h3n) n3o D6 hb hlost rfl rfl rfl fun f5 h5 ls2 e5 D9 M9 F9 r9 => ?_
      have e7 : f5.get 7 = .ptr (h.objs.length + 3) 0 0 0 := e5 7 (by simp)
      have e4 : f5.get 4 = .ptr (h.objs.length + 1) 0 0 0 := e5 4 (by simp)
      have n7 : h.objs.length + 3 ∉ own id idm ps' := fun q => (List.nodup_append.1 D7).2.2 _ q _ (by simp) rfl
      have b7' := F9.arr (f4.arr D3 (nY _ (by simp))) n7
      have hfr : ∀ y ∈ fr, y ∉ own id idm ps' := fun y hy q => (List.nodup_append.1 D7).2.2 y q y (by simp [hy]) rfl
      have O5 := (D4.fwd f4 (fun y hy => nY y (by simp [hy]))).fwd F9 hfr
      have gnew : ∀ y ∈ own id idm ps' ++ (h.objs.length + 3) :: fr, y ∈ own id idm ps ∨ h.objs.length ≤ y := fun y hy => by
        rcases g3 y (List.mem_append_left _ hy) with q | q
        · simp at q
          rcases q with q | q | q | q | q
          · exact .inl q
          all_goals exact .inr (by omega)
        · exact .inr (by omega)
      have n4 : h.objs.length + 1 ∉ own id idm ps' := fun q => by
        rcases g3 _ (List.mem_append_left _ (List.mem_append_left _ q)) with q | q
        · simp at q
          rcases q with q | q
          · have := own_lt _ q; omega
          · omega
        · omega
      have s45 := F9.arr s4' n4
      have h5l : h5.lim ≤ h5.objs.length := F9.limlen (F4.limlen hl)
      have ov := O5.one.2
      simp [e7, b7', e4, s45, Cmd.cells, ones, ov]
      have hR : R.length < 1000000 := by
        have q1 := D5
        have q2 : (mergeF (total (outs.map OutV.hits)) (outs.map OutV.hits)).length * B ≤ ((mergeF (total (outs.map OutV.hits)) (outs.map OutV.hits)).length + 1) * B := Nat.mul_le_mul_right _ (by omega)
        omega
      refine PutA_of ((O5.fwd ((Fwd.refl [] _).new _) (by simp)).append (x := .arr h5.objs.length 0 2 0 1 true) (ys := [[eI c.slot, eI c.gen]]) (by simp [elsOf]) (by simp [refCells]; omega) (by simp; omega)) ?_
      rintro v6 h6 ⟨fr6, O6, f6, g6⟩
      simp [Ends]
      have F6 : Fwd fr h5 h6 := ((Fwd.refl fr h5).new _).trans' f6 fun y hy => .inl hy
      have FF : Fwd (own id idm ps) h h6 := ((F4.trans' F9 fun y hy => gnew y (List.mem_append_left _ hy)).trans' F6 fun y hy => gnew y (by simp [hy]))
      rw [Hp.back_of FF.lim]
      have er : refCells (R ++ [(c.slot, c.gen)]) = refCells R ++ [[eI c.slot, eI c.gen]] := by simp [refCells]
      refine hK v6 fr6 h6 ls' ls2 R ps' (D9.fwd F6 hfr) D2 M9 (by rw [er]; exact O6) FF (fun y hy => gnew y (List.mem_append_left _ hy)) (fun y hy => ?_) r9
      rcases g6 y hy with q | q
      · exact ⟨gnew y (by simp [q]), hfr y q⟩
      · simp at q
        have := F2.len
        have := f3.len
        have := f4.len
        have := F9.len
        refine ⟨.inr (by omega), fun z => ?_⟩
        have := D9.lt y z
        omega
    · exact J.elim
end Dk.Q
