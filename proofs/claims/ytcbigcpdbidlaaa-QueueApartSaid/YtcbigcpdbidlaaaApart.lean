/- What waits for one query does not hang on what comes for others. -/
import Derived.Test.YtcbigcpdbidlaaaEven2
import Derived.Test.YtcbigcpdbidlaaaBound
set_option linter.unusedVariables false
set_option linter.unusedSimpArgs false
set_option linter.unusedSectionVars false
namespace Dk.Q
open Go Dk

def aIds : DC := .seq (.seq (.ops [S 170 (.mv (.t 20)),
        S 171 (.bin .lss .none (.t 170) (xI 12))])
      (.cond (.t 171)
       (.skip)
       (.exit 8)))
      (.seq (.block 9 (.seq (.ops [S 174 (.mv (.t 6)),
         S 175 (.mv (.t 20)),
         S 176 (.call n_qWaiting [(.t 174), (.t 175)]),
         S 177 (.mv (.t 7)),
         S 178 (.mv (.t 20)),
         S 179 (.call n_qWaiting [(.t 177), (.t 178)]),
         S 180 (.bin .neq .none (.t 176) (.t 179)),
         S 181 (.mv (.t 180)),
         ⟨(some 182), .mv (.t 6), (some (181, false)), []⟩,
         ⟨(some 183), .mv (.t 20), (some (181, false)), []⟩,
         ⟨(some 184), .call n_qLost [(.t 182), (.t 183)], (some (181, false)), []⟩,
         ⟨(some 185), .mv (.t 7), (some (181, false)), []⟩,
         ⟨(some 186), .mv (.t 20), (some (181, false)), []⟩,
         ⟨(some 187), .call n_qLost [(.t 185), (.t 186)], (some (181, false)), []⟩,
         ⟨(some 188), .bin .neq .bool (.t 184) (.t 187), (some (181, false)), []⟩,
         S 189 (.pick (.t 181) (xB true) (.t 188))])
       (.cond (.t 189)
        (.seq (.ops [S 4 (.mv (xB false))])
        (.ret))
        (.skip))))
      (.ops [S 172 (.mv (.t 20)),
        S 173 (.bin .add .none (.t 172) (xI 2)),
        S 20 (.mv (.t 173))]))
def aOut : DC := .seq (.seq (.ops [S 28 (.mv (.t 8)),
     S 29 (.mv (.t 1)),
     S 30 (.len 0 (.t 29)),
     S 31 (.bin .lss .none (.t 28) (.t 30)),
     S 32 (.mv (.t 31)),
     ⟨(some 33), .mv (.t 8), (some (32, true)), []⟩,
     ⟨(some 34), .bin .lss .none (.t 33) (xI 40), (some (32, true)), []⟩,
     S 35 (.pick (.t 32) (.t 34) (xB false))])
   (.cond (.t 35)
    (.skip)
    (.exit 0)))
   (.seq (.block 1 (.seq (.ops [S 39 (.mv (.t 1)),
      S 40 (.mv (.t 8)),
      S 41 (.ixa 6 (.t 39) (.t 40)),
      S 42 (.ld true 6 (.t 41)),
      S 43 (.mv (.t 8)),
      S 44 (.bin .add .none (.t 43) (xI 1)),
      S 45 (.call n_command [(.t 42), (.t 44)]),
      S 38 (.mv (.t 45)),
      S 46 (.ext (.t 38) 0),
      S 47 (.ext (.t 38) 1),
      S 9 (.new true [(eI 0), (eI 0), (eI 0), (eI 0), (eI 0), (eI 0), (eI 0), (eI 0), (eI 0), (eI 0), (eI 0), (.full []), (eI 0), (eB false)]),
      E (.st 14 (.t 9) (.t 46)),
      S 10 (.mv (.t 47))])
    (.seq (.ops [S 48 (.mv (.t 10)),
      S 49 (.len 0 (.t 48)),
      S 50 (.mks 4 true 96 [(.full []), (.full []), (.full []), (.full [])] (.t 49) (.t 49)),
      S 11 (.mv (.t 50))])
    (.seq (.seq (.ops [S 12 (.mv (xI 0))])
    (.block 2 (.loop [1, 5, 6, 7, 8, 9, 10, 11, 12] eOut)))
    (.seq (.ops [S 137 (.mv (.t 6)),
      S 138 (.mv (.t 8)),
      S 139 (.bin .add .none (.t 138) (xI 1)),
      S 140 (.ld true 14 (.t 9)),
      S 141 (.mv (.t 10)),
      S 142 (.call n_qDo [(.t 137), (.t 139), (.t 140), (.t 141)]),
      S 136 (.mv (.t 142)),
      S 143 (.ext (.t 136) 0),
      S 144 (.ext (.t 136) 1),
      S 15 (.new true [(eI 0), (eI 0), (.full [])]),
      E (.st 3 (.t 15) (.t 143)),
      S 16 (.mv (.t 144))])
    (.seq (.ops [S 146 (.mv (.t 7)),
      S 147 (.mv (.t 8)),
      S 148 (.bin .add .none (.t 147) (xI 1)),
      S 149 (.ld true 14 (.t 9)),
      S 150 (.mv (.t 11)),
      S 151 (.call n_qDo [(.t 146), (.t 148), (.t 149), (.t 150)]),
      S 145 (.mv (.t 151)),
      S 152 (.ext (.t 145) 0),
      S 153 (.ext (.t 145) 1),
      S 17 (.new true [(eI 0), (eI 0), (.full [])]),
      E (.st 3 (.t 17) (.t 152)),
      S 18 (.mv (.t 153))])
    (.seq (.ops [S 154 (.ld true 3 (.t 15)),
      S 155 (.ld true 3 (.t 17)),
      S 156 (.call n_SameAnswer [(.t 154), (.t 155)]),
      S 19 (.mv (.t 156))])
    (.seq (.seq (.ops [S 157 (.mv (.t 19)),
      S 158 (.un .not (.t 157)),
      S 159 (.mv (.t 158)),
      ⟨(some 160), .fld 0 (.t 9), (some (159, true)), []⟩,
      ⟨(some 161), .ld false 1 (.t 160), (some (159, true)), []⟩,
      ⟨(some 162), .bin .neq .none (.t 161) (xI 4), (some (159, true)), []⟩,
      ⟨(some 163), .mv (.t 162), (some (159, true)), []⟩,
      ⟨(some 164), .fld 1 (.t 9), (some (163, false)), []⟩,
      ⟨(some 165), .ld false 1 (.t 164), (some (163, false)), []⟩,
      ⟨(some 166), .bin .rem .none (.t 165) (xI 2), (some (163, false)), []⟩,
      ⟨(some 167), .bin .eql .none (.t 166) (xI 0), (some (163, false)), []⟩,
      ⟨(some 168), .pick (.t 163) (xB true) (.t 167), (some (159, true)), []⟩,
      S 169 (.pick (.t 159) (.t 168) (xB false))])
    (.cond (.t 169)
     (.seq (.ops [S 4 (.mv (xB false))])
     (.ret))
     (.skip)))
    (.seq (.ops [S 20 (.mv (xI 0))])
    (.block 8 (.loop [1, 5, 6, 7, 8, 20] aIds)))))))))))
   (.ops [S 36 (.mv (.t 8)),
     S 37 (.bin .add .none (.t 36) (xI 1)),
     S 8 (.mv (.t 37))]))
theorem twin_waits {ls es : List (Int × Line)} (T : Twin ls es) {k : Int} (hk : evenI k = true) : waits k ls = waits k es ∧ isLost k ls = isLost k es := by
  unfold waits isLost
  rw [T.look k hk]
  exact ⟨rfl, rfl⟩

theorem ids_ok {id1 idm1 id2 idm2 : Nat} {ps1 ps2 : List (Nat × List Nat)} {cf : Conf} {ls es : List (Int × Line)} {f : Fr} {h : Hp} {Q : Ex → Fr → Hp → Prop} {ks : List Ct} (H : DeskAt h id1 idm1 ps1 ⟨cf, ls⟩) (H' : DeskAt h id2 idm2 ps2 ⟨cf, es⟩) (T : Twin ls es)
    (g6 : f.get 6 = .ptr id1 0 0 0) (g7 : f.get 7 = .ptr id2 0 0 0) (g20 : f.get 20 = eI 0)
    (hQ : ∀ f', (∀ t ∈ [1, 5, 6, 7, 8], f'.get t = f.get t) → Run C0 ks .normal f' h Q) : Run C0 (.code (.loop [1, 5, 6, 7, 8, 20] aIds) :: .block 8 :: ks) .normal f h Q := by
  refine Run_loop (fun q f' h' => ∃ m : Nat, h' = h ∧ (∀ t ∈ [1, 5, 6, 7, 8], f'.get t = f.get t) ∧ f'.get 20 = eI (2 * m : Nat) ∧ m ≤ 6 ∧ q = 6 - m) (n := 6) ⟨0, rfl, fun t _ => rfl, g20, by omega, rfl⟩ ?_
  rintro q f2 h2 ⟨m, rfl, Ie, I20, Ile, Iq⟩
  have e1 := Ie 1 (by simp)
  have e5 := Ie 5 (by simp)
  have e6 := (Ie 6 (by simp)).trans g6
  have e7 := (Ie 7 (by simp)).trans g7
  have e8 := Ie 8 (by simp)
  simp only [aIds]
  by_cases hm : m < 6
  · have hm' : ((2 * m : Nat) : Int) < 12 := by omega
    have hev : evenI ((2 * m : Nat) : Int) = true := by
      simp only [evenI, decide_eq_true_eq]
      rw [Int.tmod_eq_emod_of_nonneg (by omega)]
      omega
    have w1 : IntKind.i64.wrap (((2 * m : Nat) : Int) + 2) = ((2 * (m + 1) : Nat) : Int) := by rw [wrap64 (by omega) (by omega)]; omega
    obtain ⟨t1, t2⟩ := twin_waits T hev
    generalize hI : ((2 * m : Nat) : Int) = I at *
    simp [I20, hm', e6, e7]
    refine PutA_eq (waiting_ok H I) ?_
    simp [e6, e7]
    refine PutA_eq (waiting_ok H' I) ?_
    simp [t1, e6, e7]
    refine PutA_eq (lostq_ok H I) ?_
    simp [e7]
    refine PutA_eq (lostq_ok H' I) ?_
    simp [t2, w1]
    exact ⟨6 - (m + 1), by omega, ⟨e1, e5, g6.symm, g7.symm, e8⟩, m + 1, by omega, by omega, rfl⟩
  · obtain rfl : m = 6 := by omega
    simp [I20]
    exact hQ _ (by simp [e1, e5, e6, e7, e8, g6, g7])

/-- Where the law stands: two desks. -/
structure ApAt (cf : Conf) (acts : List Act) (id1 idm1 id2 idm2 : Nat) (q : Nat) (f : Fr) (h : Hp) (i : Nat) (ps1 ps2 : List (Nat × List Nat)) (ls es : List (Int × Line)) : Prop where
  g1 : f.get 1 = .p (.list (acts.map Act.pd))
  g5 : f.get 5 = eB true
  g6 : f.get 6 = .ptr id1 0 0 0
  g7 : f.get 7 = .ptr id2 0 0 0
  g8 : f.get 8 = eI i
  le : i ≤ 40
  q : q = 40 - i
  d1 : DeskAt h id1 idm1 ps1 ⟨cf, ls⟩
  d2 : DeskAt h id2 idm2 ps2 ⟨cf, es⟩
  l1 : Lives cf ((i : Int) + 1) ls
  l2 : Lives cf ((i : Int) + 1) es
  twin : Twin ls es
  away : ∀ y ∈ own id1 idm1 ps1, y ∉ own id2 idm2 ps2
  lim : h.lim = 0

theorem Shows.lt {P : Nat → Prop} {h : Hp} : ∀ {n : Nat} {v : EV} {d : PD}, Shows P h n v d → Shows (fun y => P y ∧ y < h.objs.length) h n v d
  | 0, _, _, H => H
  | n + 1, _, _, H => H.imp_right fun ⟨id, g, off, len, f, a, ps, e, e1, e2, e3, e4, e5, e6⟩ => ⟨id, g, off, len, f, a, ps, e, e1, e2, e3, ⟨e4, arr_lt e1⟩, e5, e6.imp fun _ _ => ElShows.imp fun _ _ => Shows.lt⟩
theorem does_ms {cf : Conf} {s : Int} {c : Cmd} {outs : List OutV} {ls ls' : List (Int × Line)} {err n : Int} {ms : List Fnd} {R : List (Int × Int)} (h : Does cf s c outs ls ls' err n ms R) (F : Fit cf ls) (ho : 0 ≤ cf.o ∧ cf.o ≤ 4096) : (∀ f ∈ ms, FndOK f) ∧ ms.length < 1000000 := by
  cases h with
  | @ask a b l h1 h2 h3 h4 =>
    have := F (c.id, l) (by simp)
    refine ⟨fun f hf => this.2 f (List.mem_of_mem_take hf), ?_⟩
    have h5 := this.1
    simp only at h5
    rw [List.length_take]
    omega
  | _ => exact ⟨by simp, by simp⟩

theorem ap_round {cf : Conf} {acts : List Act} {id1 idm1 id2 idm2 q i : Nat} {f : Fr} {h : Hp} {ps1 ps2 : List (Nat × List Nat)} {ls es : List (Int × Line)} {Q : Ex → Fr → Hp → Prop} (hcf : 0 ≤ cf.o ∧ cf.o ≤ 4096) (I : ApAt cf acts id1 idm1 id2 idm2 q f h i ps1 ps2 ls es)
    (hQ : ∀ f', f'.get 5 = eB true → f'.get 6 = .ptr id1 0 0 0 → f'.get 7 = .ptr id2 0 0 0 → Q (.exit 0) f' h)
    (hN : ∀ f' h' ps1 ps2 ls es, ApAt cf acts id1 idm1 id2 idm2 (40 - (i + 1)) f' h' (i + 1) ps1 ps2 ls es → 40 - (i + 1) < q → Q .normal f' h') : Run C0 [.code aOut] .normal (mask [1, 5, 6, 7, 8] f) h Q := by
  obtain ⟨g1, g5, g6, g7, g8, le, hq, D1, D2, L1, L2, T, away, lim⟩ := I
  simp only [aOut]
  by_cases hi : i < acts.length
  · by_cases hi2 : i < 40
    · have hi2' : (i : Int) < 40 := by omega
      have w1 : IntKind.i64.wrap ((i : Int) + 1) = (i : Int) + 1 := wrap64 (by omega) (by omega)
      obtain ⟨a, ha⟩ : ∃ a, acts[i]? = some a := ⟨_, List.getElem?_eq_getElem hi⟩
      have ha2 := (List.getElem?_eq_some_iff.1 ha).2
      obtain ⟨c, outs, cok, ce⟩ := command_ok a ((i : Int) + 1) h
      simp only [Act.cells] at ce
      simp [g1, g8, hi, hi2, hi2', ha2, Act.pd, w1]
      refine PutA_eq ce ?_
      have few : outs.length ≤ 3 := cok.outs.elim (fun q => by rw [q.2.len]; omega) fun q => by rw [q.2]; simp
      have few2 : 0 ≤ (outs.length : Int) ∧ (outs.length : Int) * 96 ≤ 140737488355328 := by omega
      have few3 : outs.length * 96 ≤ 140737488355328 := by omega
      have few4 : (outs.length : Int) < 9223372036854775808 := by omega
      simp [ones, Cmd.cells, lim, few2, few3, few4]
      have ko : c.kind = 1 → OutsOK outs := fun k => cok.outs.elim (fun q => q.2) fun q => absurd k q.1
      have hok : ∀ o ∈ outs, OutOK o := fun o hm => cok.outs.elim (fun q => q.2.all o hm) fun q => by rw [q.2] at hm; cases hm
      obtain ⟨X, eX⟩ : ∃ X, X = ((h.new (.cells ⟨0, 14, true, 0, [[eI 0, eI 0, eI 0, eI 0, eI 0, eI 0, eI 0, eI 0, eI 0, eI 0, eI 0, .full [], eI 0, eB false]]⟩)).setArr h.objs.length ⟨0, 14, true, 0, [c.cells]⟩).new (.cells ⟨0, 4, true, 0, List.replicate outs.length fullRow⟩) := ⟨_, rfl⟩
      have x9 : X.arr h.objs.length 0 = some ⟨0, 14, true, 0, [c.cells]⟩ := by rw [eX]; simp [Hp.arr_set]
      have xr : X.arr (h.objs.length + 1) 0 = some ⟨0, 4, true, 0, List.replicate outs.length fullRow⟩ := by rw [eX]; simp [Hp.arr_set]
      have FX : Fwd [] h X := by rw [eX]; repeat first | exact Fwd.refl _ _ | refine Fwd.set ?_ _ (.inr (by simp)) | refine Fwd.new ?_ _
      have nX : X.objs.length = h.objs.length + 2 := by rw [eX]; simp
      have lX : X.lim = 0 := FX.lim.trans lim
      simp only [Cmd.cells, fullRow] at eX
      rw [← eX]
      clear eX
      refine outs_even (outs := outs) (r := h.objs.length + 1) hok (by simp) (by simp) (by simp) xr (by omega) (by omega) (by omega) ?_
      intro f1 h1 e1 S1 F1
      have FH1 : Fwd [] h h1 := FX.trans' F1 fun y hy => .inr (by simp at hy; omega)
      have lim1 : h1.lim = 0 := FH1.lim.trans lim
      have a9 := F1.arr x9 (by simp)
      have n1 : h.objs.length + 2 ≤ h1.objs.length := by have := F1.len; omega
      have k1 : f1.get 1 = .p (.list (acts.map Act.pd)) := (e1 1 (by simp)).trans (by simp [g1])
      have k5 : f1.get 5 = eB true := (e1 5 (by simp)).trans (by simp [g5])
      have k6 : f1.get 6 = .ptr id1 0 0 0 := (e1 6 (by simp)).trans (by simp [g6])
      have k7 : f1.get 7 = .ptr id2 0 0 0 := (e1 7 (by simp)).trans (by simp [g7])
      have k8 : f1.get 8 = eI i := (e1 8 (by simp)).trans (by simp)
      have k9 : f1.get 9 = .ptr h.objs.length 0 0 0 := (e1 9 (by simp)).trans (by simp)
      have k10 : f1.get 10 = .p (.list (outs.map OutV.pd)) := (e1 10 (by simp)).trans (by simp)
      have k11 : f1.get 11 = .arr (h.objs.length + 1) 0 4 0 outs.length false := (e1 11 (by simp)).trans (by simp)
      clear e1
      have l9 := arr_lt a9
      simp only [Cmd.cells] at a9
      simp [k6, k8, k9, k10, w1, a9, nl l9]
      have lt1 := D1.lt
      have lt2 := D2.lt
      have fs1 : ∀ y ∈ ls, y.1 ≠ (i : Int) + 1 := fun y hy e => by have := L1.keys.lt y hy; omega
      have fs2 : ∀ y ∈ es, y.1 ≠ (i : Int) + 1 := fun y hy e => by have := L2.keys.lt y hy; omega
      have dn := does_ok (s := (i : Int) + 1) (outs := outs) (c := c) (D1.fwd FH1 (by simp)) (by omega) L1.fit fs1 hcf.2 ko
      simp only [Cmd.cells] at dn
      refine PutA_of dn ?_
      rintro v Y ⟨⟨err, n, m, r, fm, fr, ps1', ls', ms, R, rfl, Do1, D1', O1, O1r, n2, n3, n4⟩, FY⟩
      have limY : Y.lim = 0 := FY.lim.trans lim1
      have ov := O1.one
      have nY := FY.len
      have b9 := FY.arr a9 (fun q => by have := lt1 _ q; omega)
      have hne9 : ¬ h.objs.length = Y.objs.length := by omega
      simp [ones, ov.2, limY, k7, k8, k9, k11, w1, hne9, b9]
      obtain ⟨Y2, eY⟩ : ∃ Y2, Y2 = (Y.new (.cells ⟨0, 3, true, 0, [[eI 0, eI 0, .full []]]⟩)).setArr Y.objs.length ⟨0, 3, true, 0, [[eI err, eI n, m]]⟩ := ⟨_, rfl⟩
      rw [← eY]
      have F2 : Fwd [] Y Y2 := by rw [eY]; repeat first | exact Fwd.refl _ _ | refine Fwd.set ?_ _ (.inr (by simp)) | refine Fwd.new ?_ _
      have y15 : Y2.arr Y.objs.length 0 = some ⟨0, 3, true, 0, [[eI err, eI n, m]]⟩ := by rw [eY]; simp [Hp.arr_set]
      have nY2 : Y2.objs.length = Y.objs.length + 1 := by rw [eY]; simp
      clear eY
      have limY2 : Y2.lim = 0 := F2.lim.trans limY
      have b9' := F2.arr b9 (by simp)
      have S2 : Shows (fun y => h.objs.length + 1 ≤ y ∧ y < h1.objs.length) Y2 8 (.arr (h.objs.length + 1) 0 4 0 outs.length false) (.list ((outs.map evenO).map OutV.pd)) :=
        (S1.lt.fwd FY (fun y hy q => by have := lt1 _ hy; omega)).fwd F2 (by simp)
      have D2' : DeskAt Y2 id2 idm2 ps2 ⟨cf, es⟩ := ((D2.fwd FH1 (by simp)).fwd FY away).fwd F2 (by simp)
      have dn2 := does_at (s := (i : Int) + 1) (outs := outs.map evenO) (c := c) D2' (by omega) L2.fit fs2 hcf.2 (fun k => (ko k).even) S2 (by simp) (fun y hy q => by have := lt2 _ hy; omega)
      simp only [Cmd.cells] at dn2
      refine PutA_of dn2 ?_
      rintro v2 Z ⟨h1', ids, hids, Fi, ni, ⟨err2, n', m2, r2, fm2, fr2, ps2', es', ms2, R2, rfl, Do2, D2'', O2, O2r, p2, p3, p4⟩, FZ⟩
      have ov2 := O2.one
      have limi : h1'.lim = 0 := Fi.lim.trans limY2
      have limZ : Z.lim = 0 := FZ.lim.trans limi
      have nZ := FZ.len
      have hi1 : ∀ y, y < h.objs.length + 1 ∨ h1.objs.length ≤ y → y ∉ ids := fun y hy q => by have := hids y q; omega
      have c15 := FZ.arr (Fi.arr y15 (hi1 _ (by omega))) (fun q => by have := lt2 _ q; omega)
      have c9 := FZ.arr (Fi.arr b9' (hi1 _ (by omega))) (fun q => by have := lt2 _ q; omega)
      have hne15 : ¬ Y.objs.length = Z.objs.length := by omega
      simp [ones, ov2.2, limZ, c15, hne15]
      obtain ⟨Z2, eZ⟩ : ∃ Z2, Z2 = (Z.new (.cells ⟨0, 3, true, 0, [[eI 0, eI 0, .full []]]⟩)).setArr Z.objs.length ⟨0, 3, true, 0, [[eI err2, eI n', m2]]⟩ := ⟨_, rfl⟩
      rw [← eZ]
      have FZ2 : Fwd [] Z Z2 := by rw [eZ]; repeat first | exact Fwd.refl _ _ | refine Fwd.set ?_ _ (.inr (by simp)) | refine Fwd.new ?_ _
      clear eZ
      have limZ2 : Z2.lim = 0 := FZ2.lim.trans limZ
      have z9 := FZ2.arr c9 (by simp)
      have lz9 := arr_lt z9
      have OA := (((O1.fwd F2 (by simp)).fwd Fi (fun y hy => hi1 y (.inr (n3 y hy)))).fwd FZ (fun y hy q => by have := lt2 _ q; have := n3 y hy; omega)).fwd FZ2 (by simp)
      have OB := O2.fwd FZ2 (by simp)
      obtain ⟨s1, s2⟩ := does_ms Do1 L1.fit hcf
      obtain ⟨s3, s4⟩ := does_ms Do2 L2.fit hcf
      obtain ⟨A, B, RA, RB, hAB⟩ : ∃ A B, Reads3 Z2 m A ∧ Reads3 Z2 m2 B ∧ (ms = ms2 → A = B) := by
        obtain ⟨A, q1, q2⟩ := sets_read ms s1
        obtain ⟨B, q3, q4⟩ := sets_read ms2 s3
        by_cases e : ms = ms2
        · subst e
          exact ⟨A, A, reads3_of q1 q2 s2 OA, reads3_of q1 q2 s2 OB, fun _ => rfl⟩
        · exact ⟨A, B, reads3_of q1 q2 s2 OA, reads3_of q3 q4 s4 OB, fun q => absurd q e⟩
      obtain ⟨T', hsame⟩ := twin_does Do1 Do2 L1.keys L2.keys T ko
      refine PutA_eq (sameA_ok RA RB ⟨ov.2, ov.1⟩ ⟨ov2.2, ov2.1⟩) ?_
      have D1f : DeskAt Z2 id1 idm1 ps1' ⟨cf, ls'⟩ := (((D1'.fwd F2 (by simp)).fwd Fi (fun y hy q => by
        rcases n2 y q with z | z
        · have := lt1 _ z; exact hi1 y (.inl (by omega)) hy
        · exact hi1 y (.inr z) hy)).fwd FZ (fun y hy q => by
        rcases n2 y q with z | z
        · exact away y z hy
        · have := lt2 _ hy; omega)).fwd FZ2 (by simp)
      have D2f : DeskAt Z2 id2 idm2 ps2' ⟨cf, es'⟩ := D2''.fwd FZ2 (by simp)
      have L1f := does_lives Do1 ko L1 hcf.1
      have L2f := does_lives Do2 (fun k => (ko k).even) L2 hcf.1
      have awayf : ∀ y ∈ own id1 idm1 ps1', y ∉ own id2 idm2 ps2' := fun y hy q => by
        have := D1'.lt y hy
        rcases p2 y q with z | z
        · rcases n2 y hy with w | w
          · exact away y w z
          · have := lt2 _ z; omega
        · omega
      obtain ⟨S, hS⟩ : ∃ S, S = (same3 A B && (decide (err = err2) && decide (n = n'))) := ⟨_, rfl⟩
      rw [← hS]
      have hS' : S = false → c.kind = 4 ∧ evenI c.id = false := fun q => by
        cases hk : evenI c.id with
        | true =>
          obtain ⟨q1, q2, q3⟩ := hsame (.inr hk)
          rw [hS, hAB q3, same3_self, decide_eq_true q1, decide_eq_true q2] at q
          cases q
        | false =>
          refine ⟨Decidable.byContradiction fun h4 => ?_, rfl⟩
          obtain ⟨q1, q2, q3⟩ := hsame (.inl h4)
          rw [hS, hAB q3, same3_self, decide_eq_true q1, decide_eq_true q2] at q
          cases q
      clear hS
      have fin : ∀ f4 : Fr, (∀ t ∈ [1, 5, 6, 7, 8], f4.get t = f1.get t) → f4.get 20 = eI 0 → Run C0 (.code (.loop [1, 5, 6, 7, 8, 20] aIds) :: .block 8 :: [.block 1, .code (.ops [Dk.S 36 (.mv (.t 8)), Dk.S 37 (.bin .add .none (.t 36) (xI 1)), Dk.S 8 (.mv (.t 37))])]) .normal f4 Z2 Q := by
        intro f4 e4 s20
        refine ids_ok D1f D2f T' ((e4 6 (by simp)).trans k6) ((e4 7 (by simp)).trans k7) s20 ?_
        intro f5 e5
        have e5' : ∀ t ∈ [1, 5, 6, 7, 8], f5.get t = f1.get t := fun t ht => (e5 t ht).trans (e4 t ht)
        have s8 := (e5' 8 (by simp)).trans k8
        simp [s8, w1]
        refine hN _ _ ps1' ps2' ls' es' ⟨?_, ?_, ?_, ?_, by simp, by omega, rfl, D1f, D2f, by simpa using L1f, by simpa using L2f, T', awayf, limZ2⟩ (by omega)
        · simpa using (e5' 1 (by simp)).trans k1
        · simpa using (e5' 5 (by simp)).trans k5
        · simpa using (e5' 6 (by simp)).trans k6
        · simpa using (e5' 7 (by simp)).trans k7
      cases S with
      | true =>
        simp
        exact fin _ (by simp) (by simp)
      | false =>
        obtain ⟨h4, hev⟩ := hS' rfl
        have hm : ¬ c.id.tmod 2 = 0 := by simpa [evenI] using hev
        have b1 : binOp .rem .none (eI c.id) (eI 2) = some (eI (c.id.tmod 2)) := by simp [binOp, intBin]
        simp [k9, z9, nl lz9, h4, hm]
        exact fin _ (by simp) (by simp)
    · have hi2' : ¬ (i : Int) < 40 := by omega
      simp [g1, g8, hi, hi2, hi2']
      exact hQ _ (by simp [g5]) (by simp [g6]) (by simp [g7])
  · simp [g1, g8, hi]
    exact hQ _ (by simp [g5]) (by simp [g6]) (by simp [g7])

theorem queueApart_ok (q0 q1 : Int) (acts : List Act) (hl : acts.length ≤ maxLen) : C0 n_QueueApart [.agg [eI q0, eI q1], .p (.list (acts.map Act.pd))] ⟨[], 0⟩ = some (eB true, ⟨[], 0⟩) := by
  refine call_loc noExt_mono (f := n_QueueApart) rfl rfl rfl fun h0 e0 el => ?_
  obtain ⟨os, lim⟩ := h0
  simp at e0 el
  subst e0 el
  simp
  obtain ⟨X, eX⟩ : ∃ X : Hp, X = (⟨[], 0⟩ : Hp).new (.cells ⟨0, 2, true, 0, [[eI q0, eI q1]]⟩) := ⟨_, rfl⟩
  have aw : C0 n_qawake [] X = some (eB true, X) := by rw [eX]; exact awake_one _
  have x0 : X.arr 0 0 = some ⟨0, 2, true, 0, [[eI q0, eI q1]]⟩ := by rw [eX]; rfl
  have lX : X.lim = 0 := by rw [eX]; rfl
  have nX : X.objs.length = 1 := by rw [eX]; rfl
  rw [← eX]
  clear eX
  refine PutA_eq aw ?_
  simp [x0]
  refine PutA_eq (config_ok q0 q1 _) ?_
  obtain ⟨a1, a2⟩ := restZ_bound (x := q0) (n := 4) (by omega)
  obtain ⟨b1, b2⟩ := restZ_bound (x := q1) (n := 6) (by omega)
  have hc : 1 ≤ (confOf q0 q1).q ∧ (confOf q0 q1).q ≤ 4096 ∧ 1 ≤ (confOf q0 q1).o ∧ (confOf q0 q1).o ≤ 4096 := by simp only [confOf]; omega
  simp
  refine PutA_of (new_ok (confOf q0 q1) X (by omega) hc) ?_
  rintro v Y ⟨id1, idm1, rfl, H1, m1, m2, f1⟩
  have lY : Y.lim = 0 := f1.lim.trans lX
  have y0 := f1.arr x0 (by simp)
  have ly0 := arr_lt y0
  simp [y0, nl ly0]
  refine PutA_eq (config_ok q0 q1 _) ?_
  simp
  refine PutA_of (new_ok (confOf q0 q1) Y (by omega) hc) ?_
  rintro v Z ⟨id2, idm2, rfl, H2, p1, p2, f2⟩
  have lZ : Z.lim = 0 := f2.lim.trans lY
  simp
  have lv : Lives (confOf q0 q1) (((0 : Nat) : Int) + 1) [] := ⟨⟨by simp, by intro y hy; cases hy⟩, by show (0 : Int) ≤ (confOf q0 q1).q; omega, by intro y hy; cases hy⟩
  have lt1 := H1.lt
  have aw0 : ∀ y ∈ own id1 idm1 [], y ∉ own id2 idm2 [] := fun y hy q => by
    have := lt1 y hy
    simp [own] at q
    omega
  refine Run_loop (fun q f h => ∃ i ps1 ps2 ls es, ApAt (confOf q0 q1) acts id1 idm1 id2 idm2 q f h i ps1 ps2 ls es) (n := 40) ⟨0, [], [], [], [], by simp, by simp, by simp, by simp, by simp, by omega, rfl, H1.fwd f2 (by simp), H2, lv, lv, ⟨rfl, fun _ _ => rfl⟩, aw0, lZ⟩ ?_
  rintro q f h ⟨i, ps1, ps2, ls, es, I⟩
  refine ap_round ⟨by omega, hc.2.2.2⟩ I (fun f' g5 g6 g7 => ?_) (fun f' h' ps1 ps2 ls es J hq => ⟨_, hq, _, ps1, ps2, ls, es, J⟩)
  have k1 := live_ok I.d1
  have k2 := live_ok I.d2
  have kl : ls.length = es.length := by simpa using congrArg List.length I.twin.keys
  simp [g5, g6, g7]
  refine PutA_eq k1 ?_
  simp [g7]
  refine PutA_eq k2 ?_
  simp [kl, Ends]
theorem queueApart_D : ∀ xss, Typed [([.int .i64, .int .i64], true), ([.slice [.int .i64, .int .i64, .int .i64, .slice [.int .i64] false, .slice [.int .i64] false, .int .i64] true], false)] xss → C0 n_QueueApart (argsEV [([.int .i64, .int .i64], true), ([.slice [.int .i64, .int .i64, .int .i64, .slice [.int .i64] false, .slice [.int .i64] false, .int .i64] true], false)] xss) ⟨[], 0⟩ = some (eB true, ⟨[], 0⟩) := law_acts queueApart_ok
end Dk.Q
