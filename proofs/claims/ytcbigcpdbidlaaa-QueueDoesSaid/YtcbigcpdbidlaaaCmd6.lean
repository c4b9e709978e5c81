/- Acts, as commands: all of it. -/
import Derived.Test.YtcbigcpdbidlaaaCmd5
set_option linter.unusedVariables false
set_option linter.unusedSimpArgs false
set_option linter.unusedSectionVars false
namespace Dk.Q
open Go Dk

def Cmd.raw (c : Cmd) : List EV := [eI c.kind, eI c.id, eI c.n, eI c.t, eI c.k, eI c.a, eI c.b, eI c.c, eI c.d, eI c.slot, eI c.gen, .full [], eI c.ta, eB c.tb]
theorem cmd_end {c : Cmd} {outs : List OutV} (hc : CmdOK c outs) (ht : c.tab = []) {P : Nat → Prop} {f : Fr} {h : Hp} {b : Nat} {v : EV} (g4 : f.get 4 = .ptr b 0 0 0) (g5 : f.get 5 = v) (ab : h.arr b 0 = some ⟨0, 14, true, 0, [c.raw]⟩) (hv : Shows P h 8 v (.list (outs.map OutV.pd))) (hf : ∀ id g sz off len, v ≠ .arr id g sz off len true) :
    EndsS [Res.cell 4 true 14, Res.tmp 5] (fun u _ => ∃ c outs, CmdOK c outs ∧ u = .tup [.agg c.cells, .p (.list (outs.map OutV.pd))]) .ret f h := by
  obtain ⟨os, e⟩ := shareV_shows (os := h.objs) (lim := h.lim) hv hf
  refine ⟨by simp, [.agg c.raw, v], by simp [resultsOf, resultOf, g4, g5, ab, loadAt, Cmd.raw], [.agg c.cells, .p (.list (outs.map OutV.pd))], os, ?_, c, outs, hc, rfl⟩
  simp [shareVs, shareV, Cmd.raw, Cmd.cells, ht, e]
theorem shows_nils {h : Hp} {i : Nat} (ha : h.arr i 0 = some ⟨0, 4, true, 0, []⟩) (hl : h.lim ≤ i) : Shows (fun _ => True) h 8 (.arr i 0 4 0 0 false) (.list (([] : List OutV).map OutV.pd)) :=
  .inr ⟨_, _, 0, 0, false, _, [], rfl, ha, by simp, hl, trivial, rfl, trivial⟩

theorem hits_ok {a : Act} {s : Int} {n0 r : Nat} {f : Fr} {h : Hp} {rows : List (List EV)} {O : List OutV} {Q : Ex → Fr → Hp → Prop} {ks : List Ct} (I : CAt a s n0 r f h rows O) (g8 : f.get 8 = eI 0) (G : ∀ o ∈ O, GoodO 0 o)
    (hQ : ∀ f' h' rows' O', CAt a s n0 r f' h' rows' O' → (∀ o ∈ O', GoodO 6 o) → Run C0 ks .normal f' h' Q) : Run C0 (.code (.loop [1, 2, 4, 7, 8] cHLoop) :: .block 1 :: ks) .normal f h Q := by
  refine Run_loop (fun q f' h' => ∃ i rows O, i ≤ 6 ∧ q = 6 - i ∧ f'.get 8 = eI (i : Nat) ∧ CAt a s n0 r f' h' rows O ∧ ∀ o ∈ O, GoodO i o) (n := 6) ⟨0, rows, O, by omega, rfl, by simpa using g8, I, G⟩ ?_
  rintro q f2 h2 ⟨i, rows, O, hi6, rfl, h8, I, G⟩
  have lB := arr_lt I.aB
  have fin : ∀ f', (∀ t ∈ [1, 2, 4, 7], f'.get t = f2.get t) → Run C0 ks .normal f' h2 Q := fun f' e => hQ f' h2 rows O (I.fwd (Fwd.refl _ _) e) fun o ho => by
    have := G o ho
    exact ⟨this.sorted, by have := this.few; omega, this.hits, this.lost⟩
  have e1 := I.g1
  have e2 := I.g2
  have e4 := I.g4
  have e7 := I.g7
  have aB := I.aB
  simp only [Act.cells] at aB
  simp only [cHLoop]
  by_cases h1 : i < a.hits.length
  · by_cases h6 : i < 6
    · have h6' : (i : Int) < 6 := by omega
      have w1 : IntKind.i64.wrap ((i : Int) + 1) = (i : Int) + 1 := wrap64 (by omega) (by omega)
      simp [h8, e2, aB, nl lB, h1, h6, h6']
      refine hit_round (I.fwd (Fwd.refl _ _) (by simp [e1, e2, e4, e7])) (by simp) h1 h6 G fun f3 h3 rows' O' I' h8' G' => ?_
      simp [h8', w1]
      exact ⟨6 - (i + 1), by omega, i + 1, by omega, rfl, by simp, rows', O', I'.fwd (Fwd.refl _ _) (by simp), G'⟩
    · have h6' : ¬ (i : Int) < 6 := by omega
      simp [h8, e2, aB, nl lB, h1, h6, h6']
      exact fin _ (by simp [e1, e2, e4, e7])
  · simp [h8, e2, aB, nl lB, h1]
    exact fin _ (by simp [e1, e2, e4, e7])
theorem lost_ok {a : Act} {s : Int} {n0 r : Nat} {f : Fr} {h : Hp} {rows : List (List EV)} {O : List OutV} {Q : Ex → Fr → Hp → Prop} {ks : List Ct} (I : CAt a s n0 r f h rows O) (g13 : f.get 13 = eI 0) (G : GoodL 0 O)
    (hQ : ∀ f' h' rows' O' i, CAt a s n0 r f' h' rows' O' → GoodL i O' → Run C0 ks .normal f' h' Q) : Run C0 (.code (.loop [1, 2, 4, 7, 13] cLLoop) :: .block 5 :: ks) .normal f h Q := by
  refine Run_loop (fun q f' h' => ∃ i rows O, i ≤ 2 ∧ q = 2 - i ∧ f'.get 13 = eI (i : Nat) ∧ CAt a s n0 r f' h' rows O ∧ GoodL i O) (n := 2) ⟨0, rows, O, by omega, rfl, by simpa using g13, I, G⟩ ?_
  rintro q f2 h2 ⟨i, rows, O, hi6, rfl, h8, I, G⟩
  have lB := arr_lt I.aB
  have fin : ∀ f', (∀ t ∈ [1, 2, 4, 7], f'.get t = f2.get t) → Run C0 ks .normal f' h2 Q := fun f' e => hQ f' h2 rows O i (I.fwd (Fwd.refl _ _) e) G
  have e1 := I.g1
  have e2 := I.g2
  have e4 := I.g4
  have e7 := I.g7
  have aB := I.aB
  simp only [Act.cells] at aB
  simp only [cLLoop]
  by_cases h1 : i < a.lost.length
  · by_cases h6 : i < 2
    · have h6' : (i : Int) < 2 := by omega
      have w1 : IntKind.i64.wrap ((i : Int) + 1) = (i : Int) + 1 := wrap64 (by omega) (by omega)
      simp [h8, e2, aB, nl lB, h1, h6, h6']
      refine lost_round (I.fwd (Fwd.refl _ _) (by simp [e1, e2, e4, e7])) (by simp) h1 h6 G fun f3 h3 rows' O' I' h8' G' => ?_
      simp [h8', w1]
      exact ⟨2 - (i + 1), by omega, i + 1, by omega, rfl, by simp, rows', O', I'.fwd (Fwd.refl _ _) (by simp), G'⟩
    · have h6' : ¬ (i : Int) < 2 := by omega
      simp [h8, e2, aB, nl lB, h1, h6, h6']
      exact fin _ (by simp [e1, e2, e4, e7])
  · simp [h8, e2, aB, nl lB, h1]
    exact fin _ (by simp [e1, e2, e4, e7])
theorem outs_show {P : Nat → Prop} {h h' : Hp} {ids : List Nat} (F : Fwd ids h h') (hi : ∀ y ∈ ids, ¬ P y) : ∀ {rows : List (List EV)} {O : List OutV}, All2 (OutRow P h) rows O → All2 (ElShows (Shows (fun _ => True) h' 7) true) rows (O.map OutV.pd)
  | [], [], _ => trivial
  | row :: rows, o :: O, ⟨⟨hv, lv, e, a, b, _, u, d⟩, r⟩ => by
    subst e
    refine ⟨⟨_, rfl, ((a.fwd F hi).shows).mono fun _ _ => trivial, (b.fwd F hi).mono fun _ _ => trivial, ?_, ?_, trivial⟩, outs_show F hi r⟩
    · rw [u]; exact .full 7
    · rw [d]; exact .full 7
  | [], _ :: _, q => q.elim
  | _ :: _, [], q => q.elim
theorem CAt.shows {a : Act} {s : Int} {n0 r : Nat} {f : Fr} {h : Hp} {rows : List (List EV)} {O : List OutV} (I : CAt a s n0 r f h rows O) {h' : Hp} (F : Fwd [n0 + 1] h h') : Shows (fun _ => True) h' 8 (.arr r 0 4 0 3 false) (.list (O.map OutV.pd)) := by
  have l := I.lim
  refine .inr ⟨r, 0, 0, 3, false, _, O.map OutV.pd, rfl, F.arr I.aR (by simp; omega), by simp [I.len], by rw [F.lim]; omega, trivial, rfl, ?_⟩
  have e : ((rows.drop 0).take 3) = rows := by rw [List.drop_zero, List.take_of_length_le (by simp [I.len])]
  rw [e]
  exact outs_show F (by simp; omega) I.is
theorem command_ok (a : Act) (s : Int) (h : Hp) : ∃ c outs, CmdOK c outs ∧ C0 n_command [.agg a.cells, eI s] h = some (.tup [.agg c.cells, .p (.list (outs.map OutV.pd))], h) := by
  have key : ∃ v, (∃ c outs, CmdOK c outs ∧ v = .tup [.agg c.cells, .p (.list (outs.map OutV.pd))]) ∧ C0 n_command [.agg a.cells, eI s] h = some (v, h) := by
    refine call_locSx (f := n_command) rfl rfl (by rintro v ⟨c, outs, -, rfl⟩; simp [Cmd.cells, EV.under, EV.unders]) ?_
    obtain ⟨h0, e0⟩ : ∃ X : Hp, X = ⟨h.objs, h.objs.length⟩ := ⟨_, rfl⟩
    rw [← e0]
    have hl0 : h0.lim ≤ h0.objs.length := by rw [e0]; exact Nat.le_refl _
    clear e0 h
    obtain ⟨r1, r2⟩ := restZ_bound (x := a.id) (n := 12) (by omega)
    obtain ⟨k1, k2⟩ := restZ_bound (x := a.kind) (n := 8) (by omega)
    have q12 := fun h => rest_ok (x := a.id) (n := 12) (by omega) (by omega) h
    have q8 := fun h => rest_ok (x := a.kind) (n := 8) (by omega) (by omega) h
    generalize restZ a.id 12 = I at *
    generalize restZ a.kind 8 = K at *
    simp [Act.cells, nl, lk hl0]
    refine PutA_eq (q12 _) ?_
    simp
    refine PutA_eq (q8 _) ?_
    have l1 : h0.lim ≤ h0.objs.length + 1 := by omega
    by_cases c0 : K = 0
    · simp [c0, ones, l1]
      exact cmd_end (c := ⟨2, 0, 0, 0, 0, 0, 0, 0, 0, 0, 0, [], 0, false⟩) (outs := []) ⟨.inr ⟨by simp, rfl⟩, by simp⟩ rfl (b := h0.objs.length + 1) (v := .arr (h0.objs.length + 3) 0 4 0 0 false) (by simp) (by simp) (by simp [Cmd.raw]) (shows_nils (by simp) (by simp; omega)) (by simp)
    by_cases c1 : K = 1
    · simp [c1, ones, l1]
      exact cmd_end (c := ⟨3, I, 0, 0, 0, 0, 0, 0, 0, 0, 0, [], 0, false⟩) (outs := []) ⟨.inr ⟨by simp, rfl⟩, by simp; omega⟩ rfl (b := h0.objs.length + 1) (v := .arr (h0.objs.length + 3) 0 4 0 0 false) (by simp) (by simp) (by simp [Cmd.raw]) (shows_nils (by simp) (by simp; omega)) (by simp)
    have ask : ∀ w : Int, CmdOK ⟨4, I, w, 0, 0, 0, 0, 0, 0, 0, 0, [], 0, false⟩ [] := fun w => ⟨.inr ⟨by simp, rfl⟩, by simp; omega⟩
    by_cases c2 : K = 2
    · simp [c2, ones, l1]
      refine PutA_eq (rest_ok (by omega) (by omega) _) ?_
      simp [ones, l1]
      exact cmd_end (ask (IntKind.i64.wrap (restZ a.n 5 - 1))) rfl (b := h0.objs.length + 1) (v := .arr (h0.objs.length + 3) 0 4 0 0 false) (by simp) (by simp) (by simp [Cmd.raw]) (shows_nils (by simp) (by simp; omega)) (by simp)
    by_cases c3 : K = 3
    · simp [c3, ones, l1]
      refine PutA_eq (rest_ok (by omega) (by omega) _) ?_
      simp [ones, l1]
      exact cmd_end (ask (IntKind.i64.wrap (restZ a.n 5 - 1))) rfl (b := h0.objs.length + 1) (v := .arr (h0.objs.length + 3) 0 4 0 0 false) (by simp) (by simp) (by simp [Cmd.raw]) (shows_nils (by simp) (by simp; omega)) (by simp)
    by_cases c4 : K = 4
    · simp [c4, ones, l1]
      exact cmd_end (c := ⟨5, 0, 0, 0, 0, 0, 0, 0, 0, 0, 0, [], 0, false⟩) (outs := []) ⟨.inr ⟨by simp, rfl⟩, by simp⟩ rfl (b := h0.objs.length + 1) (v := .arr (h0.objs.length + 3) 0 4 0 0 false) (by simp) (by simp) (by simp [Cmd.raw]) (shows_nils (by simp) (by simp; omega)) (by simp)
    by_cases c5 : K = 5
    · obtain ⟨n1, n2⟩ := restZ_bound (x := a.n) (n := 9) (by omega)
      simp [c5, ones, l1]
      refine PutA_eq (rest_ok (by omega) (by omega) _) ?_
      have w1 : IntKind.i64.wrap (6 + restZ a.n 9) = 6 + restZ a.n 9 := wrap64 (by omega) (by omega)
      simp [ones, l1, w1]
      exact cmd_end (c := ⟨6 + restZ a.n 9, 0, 0, 0, 0, 0, 0, 0, 0, 0, 0, [], 0, false⟩) (outs := []) ⟨.inr ⟨by simp; omega, rfl⟩, by simp⟩ rfl (b := h0.objs.length + 1) (v := .arr (h0.objs.length + 3) 0 4 0 0 false) (by simp) (by simp) (by simp [Cmd.raw]) (shows_nils (by simp) (by simp; omega)) (by simp)
    simp [c0, c1, c2, c3, c4, c5]
    obtain ⟨X, eX⟩ : ∃ X, X = (((h0.new (.cells ⟨0, 6, true, 0, [a.cells]⟩)).new (.cells ⟨0, 14, true, 0, [zeroC]⟩)).new (.cells ⟨0, 4, true, 0, []⟩)).new (.cells ⟨0, 4, true, 0, List.replicate 3 [.full [], .full [], .full [], .full []]⟩) := ⟨_, rfl⟩
    have nX : X.objs.length = h0.objs.length + 4 := by rw [eX]; simp
    have I0 : CAt a s h0.objs.length (h0.objs.length + 3) [(8, eI 0), (7, .arr (h0.objs.length + 3) 0 4 0 3 false), (4, .ptr (h0.objs.length + 1) 0 0 0), (2, .ptr h0.objs.length 0 0 0), (1, eI s)] X (List.replicate 3 [.full [], .full [], .full [], .full []]) (List.replicate 3 ⟨[], [], [], []⟩) := by
      refine ⟨by simp, by simp, by simp, by simp, by rw [eX]; simp, by rw [eX]; simp, by rw [eX]; simp, rfl, ⟨by rw [eX]; simpa using hl0, by omega⟩, ?_⟩
      have : OutRow (fun y => h0.objs.length + 3 < y) X [.full [], .full [], .full [], .full []] ⟨[], [], [], []⟩ := ⟨.full [], .full [], rfl, .nil, .full 7, fun _ => rfl, rfl, rfl⟩
      exact ⟨this, this, this, trivial⟩
    simp only [Act.cells, zeroC] at eX
    refine hits_ok (a := a) (s := s) (n0 := h0.objs.length) (r := h0.objs.length + 3) (rows := List.replicate 3 [.full [], .full [], .full [], .full []]) (O := List.replicate 3 ⟨[], [], [], []⟩) ?_ ?_ ?_ ?_
    · subst eX
      exact I0.fwd (Fwd.refl _ _) (by simp)
    · simp
    · intro o ho
      obtain rfl := List.eq_of_mem_replicate ho
      exact ⟨.nil, by simp, by simp, rfl⟩
    · intro f1 h1 rows O I1 G1
      simp
      refine lost_ok (I1.fwd (Fwd.refl _ _) (by simp)) (by simp) ⟨fun o ho => ⟨(G1 o ho).sorted, (G1 o ho).few, (G1 o ho).hits, by rw [(G1 o ho).lost]; simp⟩, fun j o _ ho => (G1 o (List.mem_of_getElem? ho)).lost⟩ ?_
      intro f2 h2 rows O i I2 G2
      have lC := arr_lt I2.aC
      have hlim : h2.lim ≤ h0.objs.length + 1 := by have := I2.lim; omega
      have aC := I2.aC
      simp only [zeroC] at aC
      simp [I2.g1, I2.g4, I2.g7, aC, hlim, ones]
      have F : Fwd [h0.objs.length + 1] h2 (h2.setArr (h0.objs.length + 1) ⟨0, 14, true, 0, [Cmd.raw ⟨1, 0, 0, 0, 0, 0, 0, 0, 0, s, 7, [], 0, false⟩]⟩) := (Fwd.refl _ _).set _ (by simp)
      have hO : O.length = 3 := by rw [← I2.is.len]; exact I2.len
      exact cmd_end (c := ⟨1, 0, 0, 0, 0, 0, 0, 0, 0, s, 7, [], 0, false⟩) (outs := O) ⟨.inl ⟨rfl, hO, fun o ho => ⟨(G2.all o ho).1, (G2.all o ho).2.1, (G2.all o ho).2.2.1, (G2.all o ho).2.2.2⟩⟩, by simp⟩ rfl (b := h0.objs.length + 1) (v := .arr (h0.objs.length + 3) 0 4 0 3 false) (by simp [I2.g4]) (by simp) (by simp [Hp.arr_set, lC, Cmd.raw]) (I2.shows F) (by simp)
  obtain ⟨v, ⟨c, outs, q, rfl⟩, e⟩ := key
  exact ⟨c, outs, q, e⟩
end Dk.Q
