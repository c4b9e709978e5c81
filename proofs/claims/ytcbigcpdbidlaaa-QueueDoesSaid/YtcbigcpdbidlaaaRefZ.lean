/- The reference's desk: its poll, and all that it does. No condition. -/
import Derived.Test.YtcbigcpdbidlaaaRef6
set_option linter.unusedVariables false
set_option linter.unusedSimpArgs false
set_option linter.unusedSectionVars false
namespace Dk.Q
open Go Dk

/-- What a call of the reference's desk does. -/
def RDoes (cf : Conf) (s : Int) (c : Cmd) (outs : List OutV) (ls ls' : List (Int × Line)) (err n : Int) (ms : List Fnd) (R : List (Int × Int)) : Prop :=
  (c.kind = 1 ∧ ∃ xs ls1 R1, Ins (cameOf outs) xs ∧ HitsDo cf.o xs ls ls1 R1 ∧ MarksDo (outs.flatMap OutV.lost) ls1 ls' ∧ err = 0 ∧ n = s ∧ ms = [] ∧ R = R1 ++ [(c.slot, c.gen)]) ∨ (c.kind ≠ 1 ∧ Does cf s c outs ls ls' err n ms R)
structure RDone (D : List (Int × Line) → Int → Int → List Fnd → List (Int × Int) → Prop) (cf : Conf) (rid : Nat) (qf : List Nat) (rs : List (EV × List Nat)) (h : Hp) (v : EV) (h' : Hp) : Prop where
  is : ∃ err n m r fm fr qf' rs' ls' ms R, v = .agg [eI err, eI n, m, r] ∧ D ls' err n ms R ∧ RefAt h' rid cf ls' qf' rs' ∧ Own h' 1 false m (setCells ms) fm ∧ Own h' 2 true r (refCells R) fr ∧
    (∀ y ∈ rOwn rid qf' rs', y ∈ rOwn rid qf rs ∨ h.objs.length ≤ y) ∧ (∀ y ∈ fm, h.objs.length ≤ y) ∧ (∀ y ∈ fr, h.objs.length ≤ y)
  fw : Fwd (rOwn rid qf rs) h h'
theorem rdone_plain {D : List (Int × Line) → Int → Int → List Fnd → List (Int × Int) → Prop} {cf : Conf} {rid : Nat} {qf : List Nat} {rs : List (EV × List Nat)} {ls : List (Int × Line)} {h h' : Hp} {err n : Int} (H : RefAt h rid cf ls qf rs) (f : Fwd [] h h') (d : D ls err n [] []) : RDone D cf rid qf rs h (.agg [eI err, eI n, .full [], .full []]) h' :=
  ⟨⟨err, n, .full [], .full [], [], [], qf, rs, ls, [], [], rfl, d, H.fwd f (by simp), by simpa [setCells] using Own.nil, by simpa [refCells] using Own.nil, fun y hy => .inl hy, by simp, by simp⟩, f.mono (by simp)⟩

theorem rpoll_ok {D : List (Int × Line) → Int → Int → List Fnd → List (Int × Int) → Prop} {h : Hp} {rid : Nat} {cf : Conf} {ls : List (Int × Line)} {qf : List Nat} {rs : List (EV × List Nat)} {c : Cmd} (H : RefAt h rid cf ls qf rs) (hl : h.lim ≤ h.objs.length) (F : Fit cf ls) (ho : cf.o ≤ 4096) (hbl : ls.length < 1000000)
    (d1 : c.n < 1 → D ls 1 0 [] []) (d2 : 1 ≤ c.n → (∀ l ∈ ls, l.1 ≠ c.id) → D ls 15 0 [] [])
    (d3 : ∀ a l b, 1 ≤ c.n → ls = a ++ (c.id, l) :: b → (∀ y ∈ a, y.1 ≠ c.id) → l.row = [] → l.lost = true → D ls 20 0 [] [])
    (d4 : ∀ a l b, 1 ≤ c.n → ls = a ++ (c.id, l) :: b → (∀ y ∈ a, y.1 ≠ c.id) → (l.row = [] → l.lost = false) → D (a ++ (c.id, ⟨l.row.drop c.n.toNat, l.lost⟩) :: b) 0 0 (l.row.take c.n.toNat) (allRefs (l.row.take c.n.toNat))) :
    WA (C0 n_rpoll [.ptr rid 0 0 0, .agg c.cells] h) (RDone D cf rid qf rs h) := by
  refine call_W noExt_mono (f := n_rpoll) rfl rfl ?_
  have l1 : h.lim ≤ h.objs.length + 1 := by omega
  have l2 : h.lim ≤ h.objs.length + 2 := by omega
  have F0 : ∀ o1 o2, Fwd [] h ((h.new o1).new o2) := fun o1 o2 => ((Fwd.refl _ _).new _).new _
  by_cases hn : c.n < 1
  · simp [Cmd.cells, ones, lk hl, l1, l2, hn, Ends]
    exact rdone_plain H (((F0 _ _).set _ (.inr (by omega)))) (d1 hn)
  have hn1 : 1 ≤ c.n := by omega
  simp [Cmd.cells, ones, lk hl, l1, l2, hn]
  obtain ⟨X, eX⟩ : ∃ X, X = ((h.new (.cells ⟨0, 14, true, 0, [c.cells]⟩)).new (.cells ⟨0, 4, true, 0, [[eI 0, eI 0, .full [], .full []]]⟩)) := ⟨_, rfl⟩
  have FX : Fwd [] h X := by rw [eX]; exact F0 _ _
  have nX : X.objs.length = h.objs.length + 2 := by rw [eX]; simp
  have x0 : X.arr h.objs.length 0 = some ⟨0, 14, true, 0, [c.cells]⟩ := by rw [eX]; simp [Hp.arr_set]
  have x1 : X.arr (h.objs.length + 1) 0 = some ⟨0, 4, true, 0, [[eI 0, eI 0, .full [], .full []]]⟩ := by rw [eX]; simp [Hp.arr_set]
  simp only [Cmd.cells] at eX x0
  rw [← eX]
  clear eX
  have lt := H.lt
  have limX : X.lim = h.lim := FX.lim
  have HX := H.fwd FX (by simp)
  have q0 := arr_lt x0
  have q1 := arr_lt x1
  refine PutA_eq (find_ok HX hbl c.id rfl) ?_
  rcases find_cases c.id ls with ⟨e, hno⟩ | ⟨a, l, b, rfl, hfr, e⟩
  · simp [e, x1, limX, l1, nl q1, ones, Ends]
    rw [Hp.back_of limX]
    exact rdone_plain H (FX.set _ (.inr (by omega))) (d2 hn1 hno)
  obtain ⟨ra, rv, fp, rb, rfl, hla, O, qv, t, q, qid, g, all, p1, p2, p3, p4, p5, p6, p7⟩ := HX.line
  have rl := own_lens O
  have hn0 : ¬ ((a.length : Int) < 0) := by omega
  have on := O.one
  simp only [Conf.cells, List.cons_append, List.nil_append] at t
  have q2 := arr_lt p2
  have q3 := arr_lt t
  simp [e, hn0, t, p1, p2, p4, p5, rl, ones, on.1, on.2, nl q0, nl q1, nl q2, nl q3, x0, x1, limX, nX, l2, lk hl]
  have hF := F (c.id, l) (by simp)
  have hF1 := hF.1
  have hFr := allRefs_len hF.2
  simp only at hF1 hFr
  by_cases hlost : l.row = [] ∧ l.lost = true
  · simp [hlost.1, hlost.2, x1, limX, l1, nX, nl q1, ones, Ends]
    rw [Hp.back_of limX]
    exact rdone_plain H (((FX.new _).set _ (.inr (by omega))).set _ (.inr (by omega))) (d3 a l b hn1 rfl hfr hlost.1 hlost.2)
  have hlost' : l.row = [] → l.lost = false := fun z => by simpa [z] using hlost
  have hD := d4 a l b hn1 rfl hfr hlost'
  refine Gd_join2 (fun f h' => f.get 0 = .ptr rid 0 0 0 ∧ f.get 3 = .ptr h.objs.length 0 0 0 ∧ f.get 4 = .ptr (h.objs.length + 1) 0 0 0 ∧ f.get 5 = eI a.length ∧ f.get 6 = .ptr (h.objs.length + 2) 0 0 0 ∧ h' = ((X.new (.cells ⟨0, 3, true, 0, [[eI 0, .full [], eB false]]⟩)).setArr (h.objs.length + 2) ⟨0, 3, true, 0, [[eI c.id, rv, eB l.lost]]⟩)) ?_ ?_
  · by_cases hr : l.row = []
    · simp [hr, hlost' hr, nl q0, nl q1, nX]
    · simp [hr]
  rintro f1 Y ⟨g0, g3, g4, g5, g6, eY⟩
  have FXY : Fwd [] X Y := by rw [eY]; exact ((Fwd.refl _ _).new _).set _ (.inr (by omega))
  have nY : Y.objs.length = h.objs.length + 3 := by rw [eY]; simp [nX]
  have y0 := FXY.arr x0 (by simp)
  have y1 := FXY.arr x1 (by simp)
  have y2 : Y.arr (h.objs.length + 2) 0 = some ⟨0, 3, true, 0, [[eI c.id, rv, eB l.lost]]⟩ := by rw [eY]; simp [nX]
  clear eY
  have HY := HX.fwd FXY (by simp)
  have OY := O.fwd FXY (by simp)
  have limY : Y.lim = h.lim := FXY.lim.trans limX
  have z0 := arr_lt y0
  have z1 := arr_lt y1
  have z2 := arr_lt y2
  have l3 : h.lim ≤ h.objs.length + 3 := by omega
  obtain ⟨N, hN1, hN2, hN3, hN4⟩ : ∃ N : Nat, (if (l.row.length : Int) < c.n then (l.row.length : Int) else c.n) = (N : Int) ∧ N ≤ l.row.length ∧ l.row.take c.n.toNat = l.row.take N ∧ l.row.drop c.n.toNat = l.row.drop N := by
    by_cases q : (l.row.length : Int) < c.n
    · exact ⟨l.row.length, by rw [if_pos q], Nat.le_refl _, by rw [List.take_of_length_le (by omega), List.take_of_length_le (Nat.le_refl _)], by rw [List.drop_of_length_le (by omega), List.drop_of_length_le (Nat.le_refl _)]⟩
    · exact ⟨c.n.toNat, by rw [if_neg q]; omega, by omega, rfl, rfl⟩
  rw [hN3, hN4] at hD
  simp [g0, g3, g4, g5, g6, ones, limY, nY, l3, lk hl, y0, y1, y2, nl z0, nl z1, nl z2, rl, hN1]
  obtain ⟨Z, eZ⟩ : ∃ Z, Z = ((Y.new (.cells ⟨0, 4, true, 0, [[eI 0, eI 0, .full [], .full []]]⟩)).setArr (h.objs.length + 3) ⟨0, 4, true, 0, [[eI 0, eI 0, .full [], .full []]]⟩) := ⟨_, rfl⟩
  have FYZ : Fwd [] Y Z := by rw [eZ]; exact ((Fwd.refl _ _).new _).set _ (.inr (by omega))
  have nZ : Z.objs.length = h.objs.length + 4 := by rw [eZ]; simp [nY]
  have w7 : Z.arr (h.objs.length + 3) 0 = some ⟨0, 4, true, 0, [[eI 0, eI 0, .full [], .full []]]⟩ := by rw [eZ]; simp [nY]
  rw [← eZ]
  clear eZ
  have HZ := HY.fwd FYZ (by simp)
  have OZ := OY.fwd FYZ (by simp)
  have limZ : Z.lim = h.lim := FYZ.lim.trans limY
  have hfp : ∀ y ∈ fp, y ∈ rOwn rid qf (ra ++ (rv, fp) :: rb) := fun y hy => by rw [rOwn_split]; simp [hy]
  refine rpoll_loop (row := l.row) (N := N) (b6 := h.objs.length + 2) (b7 := h.objs.length + 3) (rv := rv) (rest := eI c.id) (fp := fp) (lost := l.lost) (by simp [g6]) (by simp) (by simp) (by simp) hN2 (FYZ.arr y2 (by simp)) rfl w7 OZ (by omega) (fun y hy => by have := lt y (hfp y hy); omega) (by omega) (by omega) (by omega) (fun x hx => (hF.2 x hx).refs) ?_
  intro f3 h3 m r fm fr e3 k6 k7 k8 c7 OM OR nm nr F3
  have e30 := e3 0 (by simp)
  have e34 := e3 4 (by simp)
  have e35 := e3 5 (by simp)
  simp [g0] at e30
  simp [g4] at e34
  simp [g5] at e35
  have nb3 : h.objs.length + 3 ∉ rOwn rid qf (ra ++ (rv, fp) :: rb) := fun q => by have := lt _ q; omega
  have H3 := HZ.fwd F3 (by simpa using nb3)
  have O3 := OZ.fwd F3 (fun y hy q => by simp at q; subst q; exact nb3 (hfp _ hy))
  have rid3 : rid ≠ h.objs.length + 3 := fun q => nb3 (by rw [← q]; simp [rOwn])
  have qid3 : qid ≠ h.objs.length + 3 := fun q => nb3 (by rw [← q]; simp [rOwn, p6])
  have t3 := F3.arr (FYZ.arr (FXY.arr t (by simp)) (by simp)) (by simpa using rid3)
  have p23 := F3.arr (FYZ.arr (FXY.arr p2 (by simp)) (by simp)) (by simpa using qid3)
  have c1 := F3.arr (FYZ.arr y1 (by simp)) (by simp)
  have c2 := F3.arr (FYZ.arr y2 (by simp)) (by simp)
  have lim3 : h3.lim = h.lim := F3.lim.trans limZ
  have n3 : h.objs.length + 4 ≤ h3.objs.length := by have := F3.len; omega
  have hl3 : h3.lim ≤ h3.objs.length := by omega
  obtain ⟨w2, hv1, hv2⟩ := els_slice O3.els (lo := some (eI N)) (hi := none) (l := N) (u := l.row.length) (by simp [bounds, upper, lower, bound, hN2]) ⟨hN2, by simp⟩
  have hv3 : elsOf 2 w2 h3 = some ((l.row.drop N).map Fnd.cells) := by
    rw [hv2, List.map_drop, List.take_of_length_le (by simp)]
  have j1 := arr_lt t3
  have j2 := arr_lt c1
  have j3 := arr_lt c2
  have j4 := arr_lt p23
  have j7 := arr_lt c7
  simp [e30, e34, e35, k6, k7, k8, t3, c1, c2, hv1, nl j1, nl j2, nl j3]
  have o0 : ∀ hh : Hp, hh.arr h3.objs.length 0 = some ⟨0, 2, true, 0, []⟩ → hh.lim ≤ h3.objs.length → Own hh 2 true (.arr h3.objs.length 0 2 0 0 true) [] [h3.objs.length] := fun hh e1 e2 => by
    simpa using Own.arr (off := 0) (len := 0) (f := true) e1 (by simp) (by simp) e2
  refine PutC_of ((o0 _ (by simp) (by simpa using hl3)).append (x := w2) (ys := (l.row.drop N).map Fnd.cells) (els_fwd hv3 ((Fwd.refl _ _).new _)) (by simp; omega) (by simp; omega)) ?_
  rintro v4 h4 ⟨fv, ov, f4, gv⟩
  have F4 : Fwd fp h3 h4 := ((Fwd.refl fp h3).new _).trans' f4 (fun y hy => .inr (by simp at hy; omega))
  have gv' : ∀ y ∈ fv, h3.objs.length ≤ y := fun y hy => by
    rcases gv y hy with q | q
    · simp at q; omega
    · simp at q; omega
  have hg : Grown fp h3 fv := fun y hy => .inr (gv' y hy)
  have ov' : Own h4 2 true v4 ((l.row.drop N).map Fnd.cells) fv := by simpa using ov
  have tt : h3.arr rid 0 = some ⟨0, 8, true, 0, [cf.cells ++ [qv]]⟩ := by simpa [Conf.cells] using t3
  obtain ⟨P1, P2⟩ := H3.put (l' := ⟨l.row.drop N, l.lost⟩) hla F4 ov' hg tt p1 p23 p6
  have d := H3.dis
  rw [rOwn_split] at d
  have ridfp : rid ∉ fp := fun q => (List.nodup_append.1 d).2.2 rid (by simp) rid (by simp [q]) rfl
  have idfp : qid ∉ fp := fun q => (List.nodup_append.1 d).2.2 qid (by rw [p6]; simp) qid (by simp [q]) rfl
  have b1fp : h.objs.length + 1 ∉ fp := fun q => by have := lt _ (hfp _ q); omega
  have b3fp : h.objs.length + 3 ∉ fp := fun q => by have := lt _ (hfp _ q); omega
  have t4 := F4.arr t3 ridfp
  have q4 := F4.arr p23 idfp
  have c14 := F4.arr c1 b1fp
  have c74 := F4.arr c7 b3fp
  have lq4 := arr_lt q4
  have i1 := arr_lt c14
  have i7 := arr_lt c74
  have ov1 := ov'.one
  have om1 := OM.one
  have or1 := OR.one
  have qlt : qid < h.objs.length := lt qid (by simp [rOwn, p6])
  have lim4 : h4.lim = h.lim := F4.lim.trans lim3
  have limq : h.lim ≤ qid := by rw [← limX]; exact p7
  have eqv : qv.eqb qv = true := q.eqb_
  have ne1 : h.objs.length + 1 ≠ qid := by omega
  have ne3 : h.objs.length + 3 ≠ qid := by omega
  simp [t4, p1, q4, p4, p5, ov1.1, ov1.2, om1.1, om1.2, or1.1, or1.2, ones, lim4, limq, eqv, c14, c74, ne1, ne3, l1, k7, e34, nl lq4, nl i1, nl i7, Ends]
  rw [Hp.back_of lim4]
  have FL : ∀ Y : Hp, Fwd [h.objs.length + 1] Y (Y.setArr (h.objs.length + 1) ⟨0, 4, true, 0, [[eI 0, eI 0, m, r]]⟩) := fun Y => (Fwd.refl _ _).set _ (.inl (by simp))
  have own' : ∀ y ∈ rOwn rid qf (ra ++ (v4, fv) :: rb), y ∈ rOwn rid qf (ra ++ (rv, fp) :: rb) ∨ h3.objs.length ≤ y := fun y hy => by
    rw [rOwn_split] at hy ⊢
    rcases List.mem_append.1 hy with z | z
    · exact .inl (List.mem_append_left _ z)
    · rcases List.mem_append.1 z with z | z
      · exact .inr (gv' y z)
      · exact .inl (List.mem_append_right _ (List.mem_append_right _ z))
  have nm4 : ∀ y ∈ fm, Z.objs.length ≤ y ∧ y < h3.objs.length := fun y hy => ⟨nm y hy, OM.lt y hy⟩
  have nr4 : ∀ y ∈ fr, Z.objs.length ≤ y ∧ y < h3.objs.length := fun y hy => ⟨nr y hy, OR.lt y hy⟩
  have hsub : ∀ y ∈ qf ++ fp, y ∈ rOwn rid qf (ra ++ (rv, fp) :: rb) := fun y hy => by
    rw [rOwn_split]
    rcases List.mem_append.1 hy with z | z
    · simp [z]
    · simp [z]
  refine ⟨⟨0, 0, m, r, fm, fr, qf, ra ++ (v4, fv) :: rb, _, _, _, rfl, hD, P1.fwd (FL _) (fun y hy q => ?_), (OM.fwd P2 fun y hy q => ?_).fwd (FL _) (fun y hy q => ?_), (OR.fwd P2 fun y hy q => ?_).fwd (FL _) (fun y hy q => ?_), fun y hy => (own' y hy).imp_right fun z => by omega, fun y hy => by have := nm4 y hy; omega, fun y hy => by have := nr4 y hy; omega⟩, ?_⟩
  · simp at hy
    subst hy
    rcases own' _ q with z | z
    · have := lt _ z; omega
    · omega
  · have := lt y (hsub y q); have := nm4 y hy; omega
  · simp at q; have := nm4 y hy; omega
  · have := lt y (hsub y q); have := nr4 y hy; omega
  · simp at q; have := nr4 y hy; omega
  · refine (((((FX.trans FXY).trans FYZ).mono (by simp)).trans' F3 fun y hy => .inr (by simp at hy; omega)).trans (P2.mono hsub)).trans' (FL _) fun y hy => .inr (by simp at hy; omega)
end Dk.Q
namespace Dk.Q
open Go Dk

theorem QOwn.cut {h : Hp} {v : EV} {els : List (List EV)} {fp : List Nat} (H : QOwn h v els fp) {j : Nat} (hj : j ≤ els.length) :
    (∃ w, sliceOf 3 v (some (eI j)) none none = some w ∧ elsOf 3 w h = some (els.drop j)) ∧ ∃ u fu, sliceOf 3 v none (some (eI j)) (some (eI j)) = some u ∧ QOwn h u (els.take j) fu ∧ ∀ y ∈ fu, y ∈ fp := by
  refine ⟨?_, ?_⟩
  · obtain ⟨w, w1, w2⟩ := els_slice H.els (lo := some (eI (j : Int))) (hi := none) (l := j) (u := els.length) (by simp [bounds, upper, lower, bound, hj]) (by omega)
    refine ⟨w, w1, ?_⟩
    rw [w2, List.take_of_length_le (by simp)]
  · cases H with
    | nil =>
      have : j = 0 := by simpa using hj
      subst this
      exact ⟨.full [], [], by simp [sliceOf, sized, bounds, upper, lower, bound, sliceEls], .nil, by simp⟩
    | @arr id g n f all els a b c d e =>
      subst c
      by_cases h0 : j = 0
      · subst h0
        exact ⟨.full [], [], by simp [sliceOf, bounds, upper, lower, bound], .nil, by simp⟩
      · have hl : (els.take j).length = j := by simp; omega
        refine ⟨.arr id g 3 0 j true, [id], ?_, .arr (all := all) a b hl.symm (by rw [hl]; omega) ?_, by simp⟩
        · simp [sliceOf, bounds, upper, lower, bound, hj, Ne.symm h0]
        · rw [hl, e, List.take_take]
          simp [hj]

theorem RefAt.newq {h h1 : Hp} {rid : Nat} {cf : Conf} {ls ls' : List (Int × Line)} {qf qf' : List Nat} {rs rs' : List (EV × List Nat)} {qv : EV} (H : RefAt h rid cf ls qf rs) (f : Fwd qf h h1) (hq : QOwn h1 qv (rEls ls' rs') qf') (hg : ∀ y ∈ qf', y ∈ qf ∨ h.objs.length ≤ y)
    (hlen : rs'.length = ls'.length) (hrows : ∀ (i : Nat) (k : Int) (l : Line) (rv : EV) (fp : List Nat), ls'[i]? = some (k, l) → rs'[i]? = some (rv, fp) → Own h 2 true rv (l.row.map Fnd.cells) fp)
    (hs : (rs'.flatMap Prod.snd).Sublist (rs.flatMap Prod.snd)) :
    RefAt (h1.setArr rid ⟨0, 8, true, 0, [cf.cells ++ [qv]]⟩) rid cf ls' qf' rs' ∧ Fwd (rid :: qf) h (h1.setArr rid ⟨0, 8, true, 0, [cf.cells ++ [qv]]⟩) ∧ ∀ y ∈ rOwn rid qf' rs', y ∈ rOwn rid qf rs ∨ h.objs.length ≤ y := by
  have d := H.dis
  have lt := H.lt
  simp only [rOwn] at d lt
  obtain ⟨d1, d2⟩ := List.nodup_cons.1 d
  obtain ⟨d3, d4, d5⟩ := List.nodup_append.1 d2
  obtain ⟨qv0, t0, q0⟩ := H.top
  have l0 := arr_lt t0
  have F : Fwd [rid] h1 (h1.setArr rid ⟨0, 8, true, 0, [cf.cells ++ [qv]]⟩) := (Fwd.refl _ _).set _ (by simp)
  have rq : rid ∉ qf' := fun q => by
    rcases hg _ q with z | z
    · exact d1 (by simp [z])
    · omega
  have sub : ∀ y, y ∈ rs'.flatMap Prod.snd → y ∈ rs.flatMap Prod.snd := fun y hy => hs.subset hy
  have rid1 : rid < h1.objs.length := by have := f.len; omega
  have qn : qf'.Nodup := by
    generalize rEls ls' rs' = E at hq
    cases hq with
    | nil => simp
    | arr => simp
  refine ⟨⟨⟨qv, by simp [Hp.arr_set, rid1], hq.fwd F fun y hy q => by simp at q; subst q; exact rq hy⟩, hlen, fun i k l rv fp h1' h2' => ?_, ?_, by rw [F.lim, f.lim]; exact H.lim⟩, ?_, ?_⟩
  · have hm : ∀ y ∈ fp, y ∈ rs.flatMap Prod.snd := fun y hy => sub y (List.mem_flatMap.2 ⟨_, List.mem_of_getElem? h2', hy⟩)
    refine ((hrows i k l rv fp h1' h2').fwd f fun y hy q => ?_).fwd F fun y hy q => ?_
    · exact d5 y q y (hm y hy) rfl
    · simp at q
      subst q
      exact d1 (List.mem_append_right _ (hm _ hy))
  · simp only [rOwn]
    refine List.nodup_cons.2 ⟨fun q => ?_, List.nodup_append.2 ⟨qn, d4.sublist hs, fun x hx y hy e => ?_⟩⟩
    · rcases List.mem_append.1 q with z | z
      · exact rq z
      · exact d1 (List.mem_append_right _ (sub _ z))
    · subst e
      rcases hg x hx with z | z
      · exact d5 x z x (sub x hy) rfl
      · have := lt x (by simp only [List.mem_cons, List.mem_append]; exact .inr (.inr (sub x hy))); omega
  · exact (f.mono fun y hy => by simp [hy]).trans (F.mono fun y hy => by simp at hy; simp [hy])
  · intro y hy
    simp only [rOwn, List.mem_cons, List.mem_append] at hy ⊢
    rcases hy with z | z | z
    · exact .inl (.inl z)
    · exact (hg y z).imp_left fun z => .inr (.inl z)
    · exact .inl (.inr (.inr (sub y z)))

def uLoop : DC := .seq (.seq (.ops [S 55 (.mv (.t 11)),
        S 56 (.mv (.t 0)),
        S 57 (.nz (.t 56)),
        S 58 (.fld 7 (.t 57)),
        S 59 (.ld false 1 (.t 58)),
        S 60 (.mv (.t 9)),
        S 61 (.ixa 3 (.t 59) (.t 60)),
        S 62 (.fld 1 (.t 61)),
        S 63 (.ld false 1 (.t 62)),
        S 64 (.len 0 (.t 63)),
        S 65 (.bin .lss .none (.t 55) (.t 64))])
      (.cond (.t 65)
       (.skip)
       (.exit 1)))
      (.seq (.block 2 (.ops [S 68 (.fld 3 (.t 10)),
         S 69 (.ld false 1 (.t 68)),
         S 70 (.mv (.t 0)),
         S 71 (.nz (.t 70)),
         S 72 (.fld 7 (.t 71)),
         S 73 (.ld false 1 (.t 72)),
         S 74 (.mv (.t 9)),
         S 75 (.ixa 3 (.t 73) (.t 74)),
         S 76 (.fld 1 (.t 75)),
         S 77 (.ld false 1 (.t 76)),
         S 78 (.mv (.t 11)),
         S 79 (.ixa 2 (.t 77) (.t 78)),
         S 80 (.fld 1 (.t 79)),
         S 81 (.ld false 1 (.t 80)),
         S 82 (.app 2 true 16 (.t 69) (.t 81)),
         S 83 (.fld 3 (.t 10)),
         E (.st 1 (.t 83) (.t 82))]))
      (.ops [S 66 (.mv (.t 11)),
        S 67 (.bin .add .none (.t 66) (xI 1)),
        S 11 (.mv (.t 67))]))

theorem rend_loop {a b : List (Int × Line)} {k : Int} {l : Line} {cf : Conf} {rid tb : Nat} {qf : List Nat} {rs : List (EV × List Nat)} {h : Hp} {f : Fr} {Q : Ex → Fr → Hp → Prop} {ks : List Ct} (H : RefAt h rid cf (a ++ (k, l) :: b) qf rs)
    (g0 : f.get 0 = .ptr rid 0 0 0) (g9 : f.get 9 = eI a.length) (g10 : f.get 10 = .ptr tb 0 0 0) (g11 : f.get 11 = eI 0) (at_ : h.arr tb 0 = some ⟨0, 4, true, 0, [[eI 0, eI 0, .full [], .full []]]⟩) (hlt : ∀ y ∈ rOwn rid qf rs, y < tb) (hlb : h.lim ≤ tb) (hl : h.lim ≤ h.objs.length) (hb : l.row.length < 100000) (hr : ∀ x ∈ l.row, x.refs.length ≤ 2)
    (hQ : ∀ f' h' r fr, (∀ t ∈ [0, 8, 9, 10], f'.get t = f.get t) → h'.arr tb 0 = some ⟨0, 4, true, 0, [[eI 0, eI 0, .full [], r]]⟩ → Own h' 2 true r (refCells (allRefs l.row)) fr → (∀ y ∈ fr, h.objs.length ≤ y) → Fwd [tb] h h' → Run C0 ks .normal f' h' Q) :
    Run C0 (.code (.loop [0, 8, 9, 10, 11] uLoop) :: .block 1 :: ks) .normal f h Q := by
  have ltb := arr_lt at_
  refine Run_loop (fun q f' h' => ∃ i r fr, (∀ t ∈ [0, 8, 9, 10], f'.get t = f.get t) ∧ f'.get 11 = eI (i : Nat) ∧ i ≤ l.row.length ∧ q = l.row.length - i ∧ h'.arr tb 0 = some ⟨0, 4, true, 0, [[eI 0, eI 0, .full [], r]]⟩ ∧ Own h' 2 true r (refCells (allRefs (l.row.take i))) fr ∧ (∀ y ∈ fr, h.objs.length ≤ y) ∧ Fwd [tb] h h') (n := l.row.length)
    ⟨0, .full [], [], fun t _ => rfl, g11, by omega, rfl, at_, by simpa [refCells, allRefs] using Own.nil, by simp, Fwd.refl _ _⟩ ?_
  rintro q f2 h2 ⟨i, r, fr, Ie, I11, Ile, Iq, A, OR, nr, If⟩
  have e0 := Ie 0 (by simp)
  have e8 := Ie 8 (by simp)
  have e9 := Ie 9 (by simp)
  have e10 := Ie 10 (by simp)
  have k0 := e0.trans g0
  have k9 := e9.trans g9
  have k10 := e10.trans g10
  have ntb : ∀ y ∈ [tb], y ∉ rOwn rid qf rs := fun y hy q => by simp at hy; subst hy; exact Nat.lt_irrefl _ (hlt _ q)
  have H2 := H.fwd If ntb
  obtain ⟨ra, rv, fp, rb, rfl, hla, O, qv, t, q0, qid, g, all, p1, p2, p3, p4, p5, p6, p7⟩ := H2.line
  have rl := own_lens O h2
  simp only [Conf.cells, List.cons_append, List.nil_append] at t
  have q2 := arr_lt p2
  have q3 := arr_lt t
  have q4 := arr_lt A
  have l2 := If.limlen hl
  have ll : h2.lim ≤ tb := by rw [If.lim]; exact hlb
  simp only [uLoop]
  by_cases hi : i < l.row.length
  · obtain ⟨x, hx⟩ : ∃ x, l.row[i]? = some x := ⟨_, List.getElem?_eq_getElem hi⟩
    have hel : (l.row.map Fnd.cells)[i]? = some x.cells := by rw [List.getElem?_map, hx]; rfl
    obtain ⟨y, y', y1, y2, y3⟩ := els_fld O.els hel rfl (j := 1) (e := .p (.list (x.refs.map rPD))) rfl rfl
    have w1 : IntKind.i64.wrap ((i : Int) + 1) = (i : Int) + 1 := wrap64 (by omega) (by omega)
    have tk : l.row.take (i + 1) = l.row.take i ++ [x] := by rw [List.take_add_one, hx]; rfl
    have hx2 := hr x (List.mem_of_getElem? hx)
    have rl2 : (allRefs (l.row.take i)).length ≤ i * 2 := by
      have : ∀ {l : List Fnd}, (∀ x ∈ l, x.refs.length ≤ 2) → (allRefs l).length ≤ l.length * 2 := by
        intro l
        induction l with
        | nil => intro _; simp [allRefs]
        | cons y l ih =>
          intro hh
          have h1 := hh y (by simp)
          have h2 := ih fun z hz => hh z (by simp [hz])
          simp only [allRefs, List.flatMap_cons, List.length_append, List.length_cons] at h2 ⊢
          omega
      have := this (l := l.row.take i) fun y hy => hr y (List.mem_of_mem_take hy)
      rw [List.length_take] at this
      omega
    simp [k0, k9, k10, I11, t, p1, p2, p4, p5, rl, hi, A, nl q2, nl q3, nl q4, y1, y2, y3]
    refine PutA_of (OR.append (x := .p (.list (x.refs.map rPD))) (ys := refCells x.refs) (refs_els _ _) (by simp [refCells]; omega) l2) ?_
    rintro r4 h4 ⟨fr4, OR4, F4, G4⟩
    have nbf : tb ∉ fr := fun q => by have := nr _ q; omega
    have C := F4.arr A nbf
    have lC := arr_lt C
    have l4 : h4.lim ≤ tb := by rw [F4.lim]; exact ll
    have or4 := OR4.one
    have nr4 : ∀ y ∈ fr4, h.objs.length ≤ y := fun y hy => by
      rcases G4 y hy with z | z
      · exact nr y z
      · have := If.len; omega
    simp [k0, k9, k10, I11, C, ones, or4.1, or4.2, l4, nl lC, w1]
    refine ⟨l.row.length - (i + 1), by omega, by simp [e8, g0, g9, g10], i + 1, by simp, by omega, rfl, fr4, ?_, nr4, (If.trans' F4 fun y hy => .inr (nr y hy)).set _ (by simp)⟩
    rw [tk]
    have := OR4.fwd ((Fwd.refl [tb] h4).set (id := tb) ⟨0, 4, true, 0, [[eI 0, eI 0, .full [], r4]]⟩ (by simp)) fun y hy q => by simp at q; subst q; have := nr4 _ hy; omega
    simpa [refCells, allRefs] using this
  · obtain rfl : i = l.row.length := by omega
    rw [List.take_length] at OR
    simp [k0, k9, k10, I11, t, p1, p2, p4, p5, rl, nl q2, nl q3, nl q4]
    exact hQ _ h2 r fr (by simp [e8, g0, g9, g10]) A OR nr If
end Dk.Q
namespace Dk.Q
open Go Dk

theorem rEls_append {ls ls2 : List (Int × Line)} {rs rs2 : List (EV × List Nat)} (h : rs.length = ls.length) : rEls (ls ++ ls2) (rs ++ rs2) = rEls ls rs ++ rEls ls2 rs2 := by
  simp only [rEls]
  rw [List.zipWith_append h.symm]

theorem rdo_ok {h : Hp} {rid : Nat} {cf : Conf} {ls : List (Int × Line)} {qf : List Nat} {rs : List (EV × List Nat)} {c : Cmd} {s : Int} {outs : List OutV} (H : RefAt h rid cf ls qf rs) (hl : h.lim ≤ h.objs.length) (F : Fit cf ls) (ho : cf.o ≤ 4096) (hbl : ls.length < 100000) (hk : c.kind = 1 → OutsOK outs) :
    WA (C0 n_rDo [.ptr rid 0 0 0, eI s, .agg c.cells, .p (.list (outs.map OutV.pd))] h) (RDone (RDoes cf s c outs ls) cf rid qf rs h) := by
  refine call_W noExt_mono (f := n_rDo) rfl rfl ?_
  have l1 : h.lim ≤ h.objs.length + 1 := by omega
  have l2 : h.lim ≤ h.objs.length + 2 := by omega
  simp [Cmd.cells, ones, lk hl, l1, l2]
  obtain ⟨X, eX⟩ : ∃ X, X = ((h.new (.cells ⟨0, 14, true, 0, [c.cells]⟩)).new (.cells ⟨0, 4, true, 0, [[eI 0, eI 0, .full [], .full []]]⟩)) := ⟨_, rfl⟩
  have FX : Fwd [] h X := by rw [eX]; exact ((Fwd.refl _ _).new _).new _
  have nX : X.objs.length = h.objs.length + 2 := by rw [eX]; simp
  have x0 : X.arr h.objs.length 0 = some ⟨0, 14, true, 0, [c.cells]⟩ := by rw [eX]; simp [Hp.arr_set]
  have x1 : X.arr (h.objs.length + 1) 0 = some ⟨0, 4, true, 0, [[eI 0, eI 0, .full [], .full []]]⟩ := by rw [eX]; simp [Hp.arr_set]
  simp only [Cmd.cells] at eX
  rw [← eX]
  clear eX
  have limX : X.lim = h.lim := FX.lim
  have HX := H.fwd FX (by simp)
  refine PutA_eq (find_ok HX (by omega) c.id rfl) ?_
  simp [limX, nX, l2]
  obtain ⟨Y, eY⟩ : ∃ Y, Y = ((X.new (.cells ⟨0, 4, true, 0, [[eI 0, eI 0, .full [], .full []]]⟩)).setArr (h.objs.length + 2) ⟨0, 4, true, 0, [[eI 0, eI 0, .full [], .full []]]⟩) := ⟨_, rfl⟩
  have FXY : Fwd [] X Y := by rw [eY]; exact ((Fwd.refl _ _).new _).set _ (.inr (by omega))
  have nY : Y.objs.length = h.objs.length + 3 := by rw [eY]; simp [nX]
  have y2 : Y.arr (h.objs.length + 2) 0 = some ⟨0, 4, true, 0, [[eI 0, eI 0, .full [], .full []]]⟩ := by rw [eY]; simp [nX]
  have y0 := FXY.arr x0 (by simp)
  have y1 := FXY.arr x1 (by simp)
  have HY := HX.fwd FXY (by simp)
  have FY := FX.trans FXY
  have limY : Y.lim = h.lim := FY.lim
  have z0 := arr_lt y0
  have z1 := arr_lt y1
  have z2 := arr_lt y2
  simp only [Cmd.cells] at y0 x0
  have plain : ∀ {ls' err n}, RDoes cf s c outs ls ls' err n [] [] → ls' = ls → RDone (RDoes cf s c outs ls) cf rid qf rs h (.agg [eI err, eI n, .full [], .full []]) (Y.setArr (h.objs.length + 1) ⟨0, 4, true, 0, [[eI err, eI n, .full [], .full []]]⟩) := by
    intro ls' err n hd e
    subst e
    exact rdone_plain H (FY.set _ (.inr (by omega))) hd
  have lt := H.lt
  have fin : ∀ {h5 : Hp} {qf' : List Nat} {rs' : List (EV × List Nat)} {ls' : List (Int × Line)} {ms : List Fnd} {R : List (Int × Int)} {m r : EV} {fm fr : List Nat} {err n : Int}, Fwd (rOwn rid qf rs) h h5 → RDoes cf s c outs ls ls' err n ms R → RefAt h5 rid cf ls' qf' rs' → Own h5 1 false m (setCells ms) fm → Own h5 2 true r (refCells R) fr →
      (∀ y ∈ rOwn rid qf' rs', y ∈ rOwn rid qf rs ∨ h.objs.length + 2 < y) → (∀ y ∈ fm, h.objs.length + 2 < y) → (∀ y ∈ fr, h.objs.length + 2 < y) → RDone (RDoes cf s c outs ls) cf rid qf rs h (.agg [eI err, eI n, m, r]) (h5.setArr (h.objs.length + 1) ⟨0, 4, true, 0, [[eI err, eI n, m, r]]⟩) := by
    intro h5 qf' rs' ls' ms R m r fm fr err n f5 hd H5 OM OR n5 nm nr
    have FL : Fwd [h.objs.length + 1] h5 (h5.setArr (h.objs.length + 1) ⟨0, 4, true, 0, [[eI err, eI n, m, r]]⟩) := (Fwd.refl _ _).set _ (.inl (by simp))
    refine ⟨⟨err, n, m, r, fm, fr, qf', rs', ls', ms, R, rfl, hd, H5.fwd FL fun y hy q => ?_, OM.fwd FL fun y hy q => ?_, OR.fwd FL fun y hy q => ?_, fun y hy => (n5 y hy).imp_right fun z => by omega, fun y hy => by have := nm y hy; omega, fun y hy => by have := nr y hy; omega⟩, ?_⟩
    · simp at hy
      subst hy
      rcases n5 _ q with z | z
      · have := lt _ z; omega
      · omega
    · simp at q; have := nm y hy; omega
    · simp at q; have := nr y hy; omega
    · exact f5.trans' FL fun y hy => .inr (by simp at hy; omega)
  have nb1 : h.objs.length + 1 ∉ rOwn rid qf rs := fun q => by have := lt _ q; omega
  obtain ⟨qv, t, q0⟩ := HY.top
  have ql := q0.len
  rw [rEls_len HY.len] at ql
  simp only [Conf.cells, List.cons_append, List.nil_append] at t
  have q3 := arr_lt t
  simp [x0]
  rw [← eY]
  clear eY
  by_cases k2 : c.kind = 2
  · simp [k2, t, ql, nl q3]
    by_cases hq : cf.q ≤ (ls.length : Int)
    · simp [hq, y1, ones, limY, l1, nl z1, Ends]
      rw [Hp.back_of limY]
      exact plain (.inr ⟨by omega, .full k2 hq⟩) rfl
    · simp [hq, t, ones, nl q3]
      have F1 : Fwd [] Y (Y.new (.cells ⟨0, 3, true, 0, [[eI s, .full [], eB false]]⟩)) := (Fwd.refl _ _).new _
      refine PutA_of ((q0.fwd F1 (by simp)).append (x := .arr Y.objs.length 0 3 0 1 true) (ys := [[eI s, .full [], eB false]]) (by simp [elsOf]) (by rw [rEls_len HY.len]; simp; omega) (by simp; omega)) ?_
      rintro v6 h6 ⟨fq6, Q6, F6, G6⟩
      have f6 : Fwd qf Y h6 := (F1.mono (by simp)).trans F6
      have g6 : ∀ y ∈ fq6, y ∈ qf ∨ Y.objs.length ≤ y := fun y hy => by
        rcases G6 y hy with z | z
        · exact .inl z
        · simp at z; exact .inr (by omega)
      have eq6 : rEls ls rs ++ [[eI s, .full [], eB false]] = rEls (ls ++ [(s, ⟨[], false⟩)]) (rs ++ [(.full [], [])]) := by rw [rEls_append H.len]; rfl
      rw [eq6] at Q6
      obtain ⟨P1, P2, P3⟩ := HY.newq f6 Q6 g6 (by simp [H.len]) (fun i k l rv fp e1 e2 => by
        by_cases hi : i < ls.length
        · rw [List.getElem?_append_left hi] at e1
          rw [List.getElem?_append_left (by rw [H.len]; exact hi)] at e2
          exact HY.rows i k l rv fp e1 e2
        · rw [List.getElem?_append_right (by omega)] at e1
          rw [List.getElem?_append_right (by rw [H.len]; omega), H.len] at e2
          cases hj : i - ls.length with
          | zero =>
            rw [hj] at e1 e2
            simp at e1 e2
            obtain ⟨⟨-, rfl⟩, rfl, rfl⟩ := e1, e2
            simpa using Own.nil
          | succ j => rw [hj] at e1; simp at e1) (by simp)
      have ridq : rid ∉ qf := fun q => by have := HY.dis; simp only [rOwn] at this; exact (List.nodup_cons.1 this).1 (by simp [q])
      have t6 := f6.arr t ridq
      have r6 := arr_lt t6
      have c16 := f6.arr y1 (fun q => nb1 (by simp [rOwn, q]))
      have i6 := arr_lt c16
      have o6 := Q6.one
      have lim6 : h6.lim = h.lim := f6.lim.trans limY
      have lr : h.lim ≤ rid := H.lim
      have ne1 : h.objs.length + 1 ≠ rid := fun q => nb1 (by rw [q]; simp [rOwn])
      simp [t6, c16, ones, o6.1, o6.2, lim6, lr, ne1, l1, nl r6, nl i6, Ends]
      rw [Hp.back_of lim6]
      refine fin (qf' := fq6) (rs' := rs ++ [(.full [], [])]) (ls' := ls ++ [(s, ⟨[], false⟩)]) (ms := []) (R := []) (fm := []) (fr := []) ((FY.mono (by simp)).trans (P2.mono fun y hy => ?_)) (.inr ⟨by omega, .new k2 (by omega)⟩) ?_ (by simpa [setCells] using Own.nil) (by simpa [refCells] using Own.nil) (fun y hy => (P3 y hy).imp_right fun z => by omega) (by simp) (by simp)
      · simp only [rOwn, List.mem_cons, List.mem_append] at hy ⊢
        exact hy.imp_right .inl
      · exact P1
  by_cases k3 : c.kind = 3
  · simp [k3]
    rcases find_cases c.id ls with ⟨e, hno⟩ | ⟨a, l, b, rfl, hfr, e⟩
    · simp [e, y1, ones, limY, l1, nl z1, Ends]
      rw [Hp.back_of limY]
      exact plain (.inr ⟨by omega, .endNone k3 hno⟩) rfl
    have hn0 : ¬ ((a.length : Int) < 0) := by omega
    have hF := F (c.id, l) (by simp)
    have hF1 := hF.1
    simp only at hF1
    have hFr := allRefs_len hF.2
    simp only at hFr
    simp [e, hn0]
    refine rend_loop (tb := h.objs.length + 2) HY (by simp) (by simp) (by simp) (by simp) y2 (fun y hy => by have := lt y hy; omega) (by omega) (by omega) (by omega) (fun x hx => (hF.2 x hx).refs) ?_
    intro f3 h3 r fr e3 c7 OR nr F3
    have e30 := e3 0 (by simp)
    have e38 := e3 8 (by simp)
    have e39 := e3 9 (by simp)
    have e310 := e3 10 (by simp)
    simp at e30 e38 e39 e310
    have nb2 : h.objs.length + 2 ∉ rOwn rid qf rs := fun q => by have := lt _ q; omega
    have H3 := HY.fwd F3 (by simpa using nb2)
    have t3 := F3.arr t (by simp; intro q; exact nb2 (by rw [← q]; simp [rOwn]))
    have q3' := q0.fwd F3 (fun y hy q => by simp at q; subst q; exact nb2 (by simp [rOwn, hy]))
    have j3 := arr_lt t3
    have c13 := F3.arr y1 (by simp)
    have lim3 : h3.lim = h.lim := F3.lim.trans limY
    have n3 : h.objs.length + 3 ≤ h3.objs.length := by have := F3.len; omega
    have hl3 : h3.lim ≤ h3.objs.length := by omega
    have elen : (rEls (a ++ (c.id, l) :: b) rs).length = a.length + (b.length + 1) := by rw [rEls_len H.len]; simp
    have hblen : a.length + (b.length + 1) < 100000 := by simpa using hbl
    obtain ⟨ra, rv, fp, rb, rfl, hla, -⟩ := H3.line
    have hlb : rb.length = b.length := by have := H.len; simp at this; omega
    have esplit : rEls (a ++ (c.id, l) :: b) (ra ++ (rv, fp) :: rb) = rEls a ra ++ [eI c.id, rv, eB l.lost] :: rEls b rb := by
      rw [rEls_append hla]; rfl
    have eal : (rEls a ra).length = a.length := rEls_len hla
    obtain ⟨⟨w, w1, w2⟩, -⟩ := q3'.cut (j := a.length + 1) (by omega)
    have w2' : elsOf 3 w h3 = some (rEls b rb) := by
      rw [w2, esplit, ← eal, List.drop_append]
      simp
    have wr : IntKind.i64.wrap ((a.length : Int) + 1) = (a.length : Int) + 1 := wrap64 (by omega) (by omega)
    have w1' : sliceOf 3 qv (some (eI ((a.length : Int) + 1))) none none = some w := by simpa using w1
    simp [e30, e38, e39, e310, t3, nl j3, wr, w1']
    have F30 : Fwd [] h3 (h3.new (.cells ⟨0, 3, true, 0, []⟩)) := (Fwd.refl _ _).new _
    have Q0 : QOwn (h3.new (.cells ⟨0, 3, true, 0, []⟩)) (.arr h3.objs.length 0 3 0 0 true) [] [h3.objs.length] := .arr (all := []) (by simp) (by simpa using hl3) rfl (by simp) rfl
    have ebl : (rEls b rb).length = b.length := rEls_len hlb
    refine PutA_of (Q0.append (els_fwd w2' F30) (by simp; omega) (by simp; omega)) ?_
    rintro v4 h4 ⟨fp4, Q4, F4, -⟩
    have F34 : Fwd [] h3 h4 := F30.trans' F4 fun y hy => .inr (by simp at hy; omega)
    have q4 := q3'.fwd F34 (by simp)
    obtain ⟨-, u, fu, u1, u2, u3⟩ := q4.cut (j := a.length) (by omega)
    have t4 := F34.arr t3 (by simp)
    have j4 := arr_lt t4
    have lim4 : h4.lim = h.lim := F34.lim.trans lim3
    have n4 := F34.len
    have etk : (rEls (a ++ (c.id, l) :: b) (ra ++ (rv, fp) :: rb)).take a.length = rEls a ra := by
      rw [esplit, ← eal, List.take_left]
    rw [etk] at u2
    simp [e30, e38, e39, e310, t4, nl j4, u1]
    refine PutA_of (u2.append Q4.els (by simp; omega) (by omega)) ?_
    rintro v5 h5 ⟨fq5, Q5, F5, G5⟩
    have F35 : Fwd qf h3 h5 := (F34.mono (by simp)).trans (F5.mono u3)
    have g5 : ∀ y ∈ fq5, y ∈ qf ∨ h3.objs.length ≤ y := fun y hy => by
      rcases G5 y hy with z | z
      · exact .inl (u3 y z)
      · exact .inr (by omega)
    have e5 : rEls a ra ++ ([] ++ rEls b rb) = rEls (a ++ b) (ra ++ rb) := by rw [rEls_append hla]; rfl
    rw [e5] at Q5
    obtain ⟨P1, P2, P3⟩ := H3.newq F35 Q5 g5 (by simp [hla, hlb]) (fun i k l' rv' fp' e1 e2 => by
      by_cases hi : i < a.length
      · rw [List.getElem?_append_left hi] at e1
        rw [List.getElem?_append_left (by omega)] at e2
        exact H3.rows i k l' rv' fp' (by rw [List.getElem?_append_left hi]; exact e1) (by rw [List.getElem?_append_left (by omega)]; exact e2)
      · rw [List.getElem?_append_right (by omega)] at e1
        rw [List.getElem?_append_right (by omega), hla] at e2
        refine H3.rows (i + 1) k l' rv' fp' ?_ ?_
        · rw [List.getElem?_append_right (by omega), show i + 1 - a.length = (i - a.length) + 1 by omega, List.getElem?_cons_succ]; exact e1
        · rw [List.getElem?_append_right (by omega), hla, show i + 1 - a.length = (i - a.length) + 1 by omega, List.getElem?_cons_succ]; exact e2) (by
      simp only [List.flatMap_append, List.flatMap_cons]
      exact (List.Sublist.refl _).append (List.sublist_append_right _ _))
    have hsub : ∀ y, y ∈ qf → y ∈ rOwn rid qf (ra ++ (rv, fp) :: rb) := fun y hy => by simp [rOwn, hy]
    have ridq : rid ∉ qf := fun q => by have := HY.dis; simp only [rOwn] at this; exact (List.nodup_cons.1 this).1 (by simp [q])
    have t5 := F35.arr t3 ridq
    have j5 := arr_lt t5
    have c15 := F35.arr c13 (fun q => nb1 (hsub _ q))
    have c75 := F35.arr c7 (fun q => nb2 (hsub _ q))
    have i5 := arr_lt c15
    have i7 := arr_lt c75
    have o5 := Q5.one
    have or := OR.one
    have lim5 : h5.lim = h.lim := F35.lim.trans lim3
    have lr : h.lim ≤ rid := H.lim
    have ne1 : h.objs.length + 1 ≠ rid := fun q => nb1 (by rw [q]; simp [rOwn])
    have ne2 : h.objs.length + 2 ≠ rid := fun q => nb2 (by rw [q]; simp [rOwn])
    simp [e30, e38, e39, e310, t5, c15, c75, ones, o5.1, o5.2, or.1, or.2, lim5, lr, ne1, ne2, l1, nl j5, nl i5, nl i7, Ends]
    rw [Hp.back_of lim5]
    have P2' : Fwd (rOwn rid qf (ra ++ (rv, fp) :: rb)) h3 _ := P2.mono fun y hy => by
      simp only [rOwn, List.mem_cons, List.mem_append] at hy ⊢
      exact hy.imp_right .inl
    refine fin (qf' := fq5) (rs' := ra ++ rb) (ls' := a ++ b) (ms := []) (R := allRefs l.row) (fm := []) (fr := fr) (((FY.mono (by simp)).trans' F3 fun y hy => .inr (by simp at hy; omega)).trans P2') (.inr ⟨by omega, .ends k3 hfr⟩) P1 (by simpa [setCells] using Own.nil) (OR.fwd P2' fun y hy q => ?_) (fun y hy => (P3 y hy).imp_right fun z => by omega) (by simp) (fun y hy => by have := nr y hy; omega)
    have := lt _ q; have := nr y hy; omega
  by_cases k1 : c.kind = 1
  · simp [k1]
    simp [y0, nl z0]
    refine PutA_of (rpublish_ok (s := s) (c := c) (hk k1) HY (by omega) F ho (by omega)) ?_
    rintro v5 h5 ⟨⟨ls1, ls', R, qf', rs', rv, fr, xs, rfl, O5, H5, I5, D5, M5, n5, nr5⟩, f5⟩
    have c5 := f5.arr y1 nb1
    have i5 := arr_lt c5
    have o5 := O5.one
    have lim5 : h5.lim = h.lim := f5.lim.trans limY
    simp [c5, ones, o5.1, o5.2, lim5, l1, nl i5, Ends]
    rw [Hp.back_of lim5]
    exact fin (ms := []) (fm := []) ((FY.mono (by simp)).trans f5) (.inl ⟨k1, xs, ls1, R, I5, D5, M5, rfl, rfl, rfl, rfl⟩) H5 (by simpa [setCells] using Own.nil) O5 (fun y hy => (n5 y hy).imp_right fun z => by omega) (by simp) (fun y hy => by have := nr5 y hy; omega)
  by_cases k4 : c.kind = 4
  · simp [k4]
    simp [y0, nl z0]
    refine PutA_of (rpoll_ok (c := c) (D := RDoes cf s c outs ls) HY (by omega) F ho (by omega) (fun hn => .inr ⟨by omega, .few k4 hn⟩) (fun hn hno => .inr ⟨by omega, .askNone k4 hn hno⟩) (fun a l b hn e hfr h1 h2 => ?_) (fun a l b hn e hfr h1 => ?_)) ?_
    · subst e; exact .inr ⟨by omega, .askLost k4 hn hfr h1 h2⟩
    · subst e; exact .inr ⟨by omega, .ask k4 hn hfr h1⟩
    rintro v5 h5 ⟨⟨err, n, m, r, fm, fr, qf', rs', ls', ms, R, rfl, hD, H5, OM, OR, n5, nm, nr⟩, f5⟩
    have c5 := f5.arr y1 nb1
    have i5 := arr_lt c5
    have om := OM.one
    have or := OR.one
    have lim5 : h5.lim = h.lim := f5.lim.trans limY
    simp [c5, ones, om.1, om.2, or.1, or.2, lim5, l1, nl i5, Ends]
    rw [Hp.back_of lim5]
    exact fin ((FY.mono (by simp)).trans f5) hD H5 OM OR (fun y hy => (n5 y hy).imp_right fun z => by omega) (fun y hy => by have := nm y hy; omega) (fun y hy => by have := nr y hy; omega)
  by_cases k5 : c.kind = 5
  · simp [k5, y1, ones, limY, l1, nl z1, Ends]
    rw [Hp.back_of limY]
    exact plain (.inr ⟨by omega, .close k5⟩) rfl
  · simp [k1, k2, k3, k4, k5, y1, ones, limY, l1, nl z1, Ends]
    rw [Hp.back_of limY]
    exact plain (.inr ⟨k1, .bad ⟨k1, k2, k3, k4, k5⟩⟩) rfl
end Dk.Q
