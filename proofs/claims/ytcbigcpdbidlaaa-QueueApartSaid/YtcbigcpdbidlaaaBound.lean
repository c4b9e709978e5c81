/- Never more than may be. -/
import Derived.Test.YtcbigcpdbidlaaaLaw
import Derived.Test.YtcbigcpdbidlaaaNil
set_option linter.unusedVariables false
set_option linter.unusedSimpArgs false
set_option linter.unusedSectionVars false
namespace Dk.Q
open Go Dk

theorem awake_one' (o1 : Obj) : runC (treeOf progList) 1000 40 n_qawake [] (heapOf [o1] 0) = some (eB true, heapOf [o1] 0) := by kernel_rfl
theorem awake_one (o1 : Obj) : C0 n_qawake [] ⟨[o1], 0⟩ = some (eB true, ⟨[o1], 0⟩) := by
  obtain ⟨h', e, R⟩ := runC_ok (ext := noExt) small noYield noExt_mono (awake_one' o1) (heapOf_ok (by simp))
  rw [heapOf_is (by simp) R] at e
  exact e

def cInn : DC := (.seq (.seq (.ops [S 50 (.mv (.t 12)),
        S 51 (.bin .lss .none (.t 50) (xI 41))])
      (.cond (.t 51)
       (.skip)
       (.exit 2)))
      (.seq (.block 3 (.seq (.ops [S 54 (.fld 0 (.t 10)),
         S 55 (.ld false 1 (.t 54)),
         S 56 (.bin .eql .none (.t 55) (xI 3)),
         S 57 (.mv (.t 56)),
         ⟨(some 58), .fld 1 (.t 10), (some (57, true)), []⟩,
         ⟨(some 59), .ld false 1 (.t 58), (some (57, true)), []⟩,
         ⟨(some 60), .mv (.t 12), (some (57, true)), []⟩,
         ⟨(some 61), .bin .eql .none (.t 59) (.t 60), (some (57, true)), []⟩,
         S 62 (.pick (.t 57) (.t 61) (xB false)),
         S 13 (.mv (.t 62))])
       (.seq (.seq (.ops [S 63 (.mv (.t 7)),
         S 64 (.mv (.t 12)),
         S 66 (.fld 5 (.t 6)),
         S 67 (.ld false 1 (.t 66)),
         ⟨(some 65), .call n_qWaiting [(.t 63), (.t 64)], none, [(67, .ld false 1 (.t 66), none)]⟩,
         S 68 (.bin .gtr .none (.t 65) (.t 67)),
         S 69 (.mv (.t 68)),
         ⟨(some 70), .mv (.t 12), (some (69, false)), []⟩,
         ⟨(some 71), .ixp 41 1 (.t 8) (.t 70), (some (69, false)), []⟩,
         ⟨(some 72), .ld false 1 (.t 71), (some (69, false)), []⟩,
         ⟨(some 73), .mv (.t 72), (some (69, false)), []⟩,
         ⟨(some 74), .mv (.t 13), (some (73, true)), []⟩,
         ⟨(some 75), .un .not (.t 74), (some (73, true)), []⟩,
         ⟨(some 76), .pick (.t 73) (.t 75) (xB false), (some (69, false)), []⟩,
         ⟨(some 77), .mv (.t 76), (some (69, false)), []⟩,
         ⟨(some 78), .mv (.t 7), (some (77, true)), []⟩,
         ⟨(some 79), .mv (.t 12), (some (77, true)), []⟩,
         ⟨(some 80), .call n_qLost [(.t 78), (.t 79)], (some (77, true)), []⟩,
         ⟨(some 81), .un .not (.t 80), (some (77, true)), []⟩,
         ⟨(some 82), .pick (.t 77) (.t 81) (xB false), (some (69, false)), []⟩,
         S 83 (.pick (.t 69) (xB true) (.t 82))])
       (.cond (.t 83)
        (.seq (.ops [S 4 (.mv (xB false))])
        (.ret))
        (.skip)))
       (.ops [S 84 (.mv (.t 12)),
         S 85 (.mv (.t 7)),
         S 86 (.mv (.t 12)),
         S 87 (.call n_qLost [(.t 85), (.t 86)]),
         S 88 (.ixp 41 1 (.t 8) (.t 84)),
         E (.st 1 (.t 88) (.t 87))]))))
      (.ops [S 52 (.mv (.t 12)),
        S 53 (.bin .add .none (.t 52) (xI 1)),
        S 12 (.mv (.t 53))])))
def cOut : DC := (.seq (.seq (.ops [S 19 (.mv (.t 9)),
     S 20 (.mv (.t 1)),
     S 21 (.len 0 (.t 20)),
     S 22 (.bin .lss .none (.t 19) (.t 21)),
     S 23 (.mv (.t 22)),
     ⟨(some 24), .mv (.t 9), (some (23, true)), []⟩,
     ⟨(some 25), .bin .lss .none (.t 24) (xI 40), (some (23, true)), []⟩,
     S 26 (.pick (.t 23) (.t 25) (xB false))])
   (.cond (.t 26)
    (.skip)
    (.exit 0)))
   (.seq (.block 1 (.seq (.ops [S 30 (.mv (.t 1)),
      S 31 (.mv (.t 9)),
      S 32 (.ixa 6 (.t 30) (.t 31)),
      S 33 (.ld true 6 (.t 32)),
      S 34 (.mv (.t 9)),
      S 35 (.bin .add .none (.t 34) (xI 1)),
      S 36 (.call n_command [(.t 33), (.t 35)]),
      S 29 (.mv (.t 36)),
      S 37 (.ext (.t 29) 0),
      S 38 (.ext (.t 29) 1),
      S 10 (.new true [(eI 0), (eI 0), (eI 0), (eI 0), (eI 0), (eI 0), (eI 0), (eI 0), (eI 0), (eI 0), (eI 0), (.full []), (eI 0), (eB false)]),
      E (.st 14 (.t 10) (.t 37)),
      S 11 (.mv (.t 38))])
    (.seq (.ops [S 39 (.mv (.t 7)),
      S 40 (.mv (.t 9)),
      S 41 (.bin .add .none (.t 40) (xI 1)),
      S 42 (.ld true 14 (.t 10)),
      S 43 (.mv (.t 11)),
      S 44 (.call n_qDo [(.t 39), (.t 41), (.t 42), (.t 43)])])
    (.seq (.seq (.ops [S 45 (.mv (.t 7)),
      S 47 (.fld 3 (.t 6)),
      S 48 (.ld false 1 (.t 47)),
      ⟨(some 46), .call n_qLive [(.t 45)], none, [(48, .ld false 1 (.t 47), none)]⟩,
      S 49 (.bin .gtr .none (.t 46) (.t 48))])
    (.cond (.t 49)
     (.seq (.ops [S 4 (.mv (xB false))])
     (.ret))
     (.skip)))
    (.seq (.ops [S 12 (.mv (xI 0))])
    (.block 2 (.loop [1, 5, 6, 7, 8, 9, 10, 12] cInn)))))))
   (.ops [S 27 (.mv (.t 9)),
     S 28 (.bin .add .none (.t 27) (xI 1)),
     S 9 (.mv (.t 28))])))
/-- Where the law stands, one act done, ids asked up to one. -/
structure InnAt (cf : Conf) (c : Cmd) (acts : List Act) (i c6 id b8 b10 : Nat) (ls ls' : List (Int × Line)) (h0 : Hp) (q : Nat) (f : Fr) (h : Hp) (k : Nat) (L : List Bool) : Prop where
  g1 : f.get 1 = .p (.list (acts.map Act.pd))
  g5 : f.get 5 = eB true
  g6 : f.get 6 = .ptr c6 0 0 0
  g7 : f.get 7 = .ptr id 0 0 0
  g8 : f.get 8 = .ptr b8 0 0 0
  g9 : f.get 9 = eI i
  g10 : f.get 10 = .ptr b10 0 0 0
  g12 : f.get 12 = eI k
  ac : h.arr c6 0 = some ⟨0, 7, true, 0, [cf.cells]⟩
  ax : h.arr b10 0 = some ⟨0, 14, true, 0, [c.cells]⟩
  al : h.arr b8 0 = some ⟨0, 41, true, 0, [L.map eB]⟩
  len : L.length = 41
  le : k ≤ 41
  q : q = 41 - k
  new : ∀ j, j < k → L[j]? = some (isLost (j : Int) ls')
  old : ∀ j, k ≤ j → j < 41 → L[j]? = some (isLost (j : Int) ls)
  fw : Fwd [b8] h0 h
  lim : h.lim ≤ b8

theorem inn_ok {cf : Conf} {c : Cmd} {acts : List Act} {i c6 id idm b8 b10 : Nat} {ps : List (Nat × List Nat)} {ls ls' : List (Int × Line)} {h0 : Hp} {f : Fr} {L : List Bool} {Q : Ex → Fr → Hp → Prop} {ks : List Ct} (H : DeskAt h0 id idm ps ⟨cf, ls'⟩) (hb8 : b8 ∉ own id idm ps) (h68 : c6 ≠ b8) (h18 : b10 ≠ b8)
    (hw : ∀ k : Int, (waits k ls' : Int) ≤ cf.o) (hst : ∀ k : Int, isLost k ls = true → ¬ (c.kind = 3 ∧ c.id = k) → isLost k ls' = true) (I : InnAt cf c acts i c6 id b8 b10 ls ls' h0 41 f h0 0 L)
    (hQ : ∀ f' h' L', InnAt cf c acts i c6 id b8 b10 ls ls' h0 0 f' h' 41 L' → Run C0 ks .normal f' h' Q) : Run C0 (.code (.loop [1, 5, 6, 7, 8, 9, 10, 12] cInn) :: .block 2 :: ks) .normal f h0 Q := by
  refine Run_loop (fun q f' h' => ∃ k L, InnAt cf c acts i c6 id b8 b10 ls ls' h0 q f' h' k L) (n := 41) ⟨0, L, I⟩ ?_
  rintro q f2 h2 ⟨k, L, I⟩
  obtain ⟨g1, g5, g6, g7, g8, g9, g10, g12, ac, ax, al, len, le, hq, new, old, fw, lim⟩ := I
  have l8 := arr_lt al
  have l6 := arr_lt ac
  have l10 := arr_lt ax
  have H2 := H.fwd fw (by simpa using hb8)
  simp only [cInn]
  by_cases hk : k < 41
  · have hk' : (k : Int) < 41 := by omega
    have wk := hw k
    have wk' : ¬ (cf.o < (waits k ls' : Int)) := by omega
    have w1 : IntKind.i64.wrap ((k : Int) + 1) = (k : Int) + 1 := wrap64 (by omega) (by omega)
    have hL := old k (Nat.le_refl _) hk
    have hk40 : k ≤ 40 := by omega
    have hld : ∀ b : Bool, L[k]? = some b → List.take 1 (List.drop k (List.map eB L)) = [eB b] := fun b hb => by
      have hkl : k < (L.map eB).length := by simp; omega
      rw [List.drop_eq_getElem_cons hkl]
      simp [(List.getElem?_eq_some_iff.1 hb).2]
    have ix : ixpAt 41 1 (.ptr b8 0 0 0) (eI k) = some (.ptr b8 0 0 k) := by simp [ixpAt, hk]
    simp only [Cmd.cells] at ax
    simp only [Conf.cells] at ac
    obtain ⟨E, hE⟩ : ∃ E : Bool, E = decide (c.kind = 3 ∧ c.id = k) := ⟨_, rfl⟩
    simp [g12, hk, hk', g10, ax, nl l10, g7, g6, ac]
    refine Gd_join (k1 := [_]) (fun f' h' => h' = h2 ∧ (∀ t ∈ [1, 5, 6, 7, 8, 9, 10, 12], f'.get t = f2.get t) ∧ f'.get 13 = eB E) ?_ ?_
    · by_cases h3 : c.kind = 3
      · by_cases h4 : c.id = k
        · simp [h3, h4, hE, ax, nl l10, g10, g12, g1, g5, g6, g7, g8, g9]
        · simp [h3, h4, hE, ax, nl l10, g10, g12, g1, g5, g6, g7, g8, g9]
      · simp [h3, hE, ax, nl l10, g10, g12, g1, g5, g6, g7, g8, g9]
    rintro f3 h3 ⟨rfl, e3, g13⟩
    have r1 := (e3 1 (by simp)).trans g1
    have r5 := (e3 5 (by simp)).trans g5
    have r6 := (e3 6 (by simp)).trans g6
    have r7 := (e3 7 (by simp)).trans g7
    have r8 := (e3 8 (by simp)).trans g8
    have r9 := (e3 9 (by simp)).trans g9
    have r10 := (e3 10 (by simp)).trans g10
    have r12 := (e3 12 (by simp)).trans g12
    clear e3
    simp [r7, r12, r6, ac, nl l6]
    refine PutC_of (K := fun w h' => w = eI (waits k ls') ∧ h' = h3) ⟨_, _, waiting_ok H2 k, rfl, rfl⟩ ?_
    rintro _ hh ⟨rfl, rfl⟩
    have hd : decide (cf.o < (waits k ls' : Int)) = false := by simpa using wk'
    simp [r7, r12, r6, ac, nl l6, hd]
    have fin : ∀ f4 : Fr, (∀ t ∈ [1, 5, 6, 7, 8, 9, 10, 12], f4.get t = f3.get t) → f4.get 84 = eI k → PutA C0 (some 87) (C0 n_qLost [.ptr id 0 0 0, eI k] hh) [.ops [S 88 (.ixp 41 1 (.t 8) (.t 84)), Dk.E (.st 1 (.t 88) (.t 87))], .block 3, .code (.ops [S 52 (.mv (.t 12)), S 53 (.bin .add .none (.t 52) (xI 1)), S 12 (.mv (.t 53))])] f4 (LoopQ C0 (.block 2 :: ks) Q (fun q f' h' => ∃ k L, InnAt cf c acts i c6 id b8 b10 ls ls' h0 q f' h' k L) q) := by
      intro f4 e4 s84
      have s1 := (e4 1 (by simp)).trans r1
      have s5 := (e4 5 (by simp)).trans r5
      have s6 := (e4 6 (by simp)).trans r6
      have s7 := (e4 7 (by simp)).trans r7
      have s8 := (e4 8 (by simp)).trans r8
      have s9 := (e4 9 (by simp)).trans r9
      have s10 := (e4 10 (by simp)).trans r10
      have s12 := (e4 12 (by simp)).trans r12
      refine PutA_eq (lostq_ok H2 k) ?_
      simp [s8, s12, s84]
      rw [ix]
      simp [al, nl l8, lim, len, hk, ones, hk40]
      have hset : (L.map eB).take k ++ EV.p (PD.bool (isLost (k : Int) ls')) :: (L.map eB).drop (k + 1) = (L.set k (isLost (k : Int) ls')).map eB := by
        rw [List.set_eq_take_append_cons_drop, if_pos (by omega)]
        simp
      rw [hset]
      obtain ⟨Y, eY⟩ : ∃ Y, Y = hh.setArr b8 ⟨0, 41, true, 0, [(L.set k (isLost (k : Int) ls')).map eB]⟩ := ⟨_, rfl⟩
      rw [← eY]
      have F : Fwd [b8] hh Y := by rw [eY]; exact (Fwd.refl _ _).set _ (by simp)
      have y8 : Y.arr b8 0 = some ⟨0, 41, true, 0, [(L.set k (isLost (k : Int) ls')).map eB]⟩ := by rw [eY]; simp [Hp.arr_set, l8]
      simp [s12, w1]
      refine ⟨41 - (k + 1), by omega, k + 1, L.set k (isLost (k : Int) ls'), by simp [s1], by simp [s5], by simp [s6], by simp [s7], by simp [s8], by simp [s9], by simp [s10], by simp, F.arr ac (by simpa using h68), F.arr ax (by simpa using h18), y8, by simp [len], by omega, rfl, fun j hj => ?_, fun j hj hj2 => ?_, fw.trans F, by rw [F.lim]; exact lim⟩
      · by_cases e : j = k
        · subst e; rw [List.getElem?_set_self (by omega)]
        · rw [List.getElem?_set_ne (Ne.symm e)]; exact new j (by omega)
      · rw [List.getElem?_set_ne (by omega)]; exact old j (by omega) hj2
    simp only [r8]
    rw [ix]
    cases hb : isLost (k : Int) ls with
    | false =>
      rw [hb] at hL
      have hL2 := hld _ hL
      simp [al, nl l8, len, hk, hk40, hL2, r7, r12]
      refine fin _ ?_ ?_ <;> simp [r7, r12]
    | true =>
      rw [hb] at hL
      have hL2 := hld _ hL
      cases E with
      | true =>
        simp [al, nl l8, len, hk, hk40, hL2, g13, r7, r12]
        refine fin _ ?_ ?_ <;> simp [r7, r12]
      | false =>
        have hl := hst k hb (of_decide_eq_false hE.symm)
        simp [al, nl l8, len, hk, hk40, hL2, g13, r7, r12]
        refine PutA_eq (lostq_ok H2 k) ?_
        simp [hl, r7, r12]
        refine fin _ ?_ ?_ <;> simp [r7, r12]
  · have hk' : ¬ (k : Int) < 41 := by omega
    obtain rfl : k = 41 := by omega
    simp [g12]
    exact hQ _ h2 L ⟨by simp [g1], by simp [g5], by simp [g6], by simp [g7], by simp [g8], by simp [g9], by simp [g10], by simp [g12], ac, ax, al, len, le, by omega, new, old, fw, lim⟩
structure OutAt (cf : Conf) (acts : List Act) (c6 id idm b8 : Nat) (q : Nat) (f : Fr) (h : Hp) (i : Nat) (ps : List (Nat × List Nat)) (ls : List (Int × Line)) (L : List Bool) : Prop where
  g1 : f.get 1 = .p (.list (acts.map Act.pd))
  g5 : f.get 5 = eB true
  g6 : f.get 6 = .ptr c6 0 0 0
  g7 : f.get 7 = .ptr id 0 0 0
  g8 : f.get 8 = .ptr b8 0 0 0
  g9 : f.get 9 = eI i
  ac : h.arr c6 0 = some ⟨0, 7, true, 0, [cf.cells]⟩
  al : h.arr b8 0 = some ⟨0, 41, true, 0, [L.map eB]⟩
  len : L.length = 41
  le : i ≤ 40
  q : q = 40 - i
  is : ∀ j : Nat, j < 41 → L[j]? = some (isLost (j : Int) ls)
  desk : DeskAt h id idm ps ⟨cf, ls⟩
  lives : Lives cf ((i : Int) + 1) ls
  away : c6 ∉ own id idm ps ∧ b8 ∉ own id idm ps ∧ c6 ≠ b8
  lim : h.lim = 0

theorem out_ok {cf : Conf} {acts : List Act} {c6 id idm b8 : Nat} {f : Fr} {h : Hp} {ps : List (Nat × List Nat)} {ls : List (Int × Line)} {L : List Bool} {Q : Ex → Fr → Hp → Prop} {ks : List Ct} (hcf : 0 ≤ cf.o ∧ cf.o ≤ 4096) (I : OutAt cf acts c6 id idm b8 40 f h 0 ps ls L)
    (hQ : ∀ f' h', f'.get 5 = eB true → Run C0 ks .normal f' h' Q) : Run C0 (.code (.loop [1, 5, 6, 7, 8, 9] cOut) :: .block 0 :: ks) .normal f h Q := by
  refine Run_loop (fun q f' h' => ∃ i ps ls L, OutAt cf acts c6 id idm b8 q f' h' i ps ls L) (n := 40) ⟨0, ps, ls, L, I⟩ ?_
  clear I h f ps ls L
  rintro q f h ⟨i, ps, ls, L, I⟩
  obtain ⟨g1, g5, g6, g7, g8, g9, ac, al, len, le, hq, is, H, lives, ⟨a1, a2, a3⟩, lim⟩ := I
  have l6 := arr_lt ac
  have l8 := arr_lt al
  simp only [cOut]
  by_cases hi : i < acts.length
  · by_cases hi2 : i < 40
    · have hi2' : (i : Int) < 40 := by omega
      have w1 : IntKind.i64.wrap ((i : Int) + 1) = (i : Int) + 1 := wrap64 (by omega) (by omega)
      obtain ⟨a, ha⟩ : ∃ a, acts[i]? = some a := ⟨_, List.getElem?_eq_getElem hi⟩
      have ha2 := (List.getElem?_eq_some_iff.1 ha).2
      obtain ⟨c, outs, cok, ce⟩ := command_ok a ((i : Int) + 1) h
      simp only [Act.cells] at ce
      simp [g1, g9, hi, hi2, hi2', ha2, Act.pd, w1]
      refine PutA_eq ce ?_
      simp [ones, Cmd.cells, lim, g7, w1]
      obtain ⟨X, eX⟩ : ∃ X, X = (h.new (.cells ⟨0, 14, true, 0, [[eI 0, eI 0, eI 0, eI 0, eI 0, eI 0, eI 0, eI 0, eI 0, eI 0, eI 0, .full [], eI 0, eB false]]⟩)).setArr h.objs.length ⟨0, 14, true, 0, [c.cells]⟩ := ⟨_, rfl⟩
      have x10 : X.arr h.objs.length 0 = some ⟨0, 14, true, 0, [c.cells]⟩ := by rw [eX]; simp [Hp.arr_set]
      have FX : Fwd [] h X := by rw [eX]; repeat first | exact Fwd.refl _ _ | refine Fwd.set ?_ _ (.inr (by simp)) | refine Fwd.new ?_ _
      have nX : X.objs.length = h.objs.length + 1 := by rw [eX]; simp
      simp only [Cmd.cells] at eX
      rw [← eX]
      clear eX
      have ko : c.kind = 1 → OutsOK outs := fun k => cok.outs.elim (fun q => q.2) fun q => absurd k q.1
      have dn := does_ok (s := (i : Int) + 1) (outs := outs) (c := c) (H.fwd FX (by simp)) (by rw [FX.lim, lim]; omega) lives.fit (fun y hy e => by have := lives.keys.lt y hy; omega) hcf.2 ko
      simp only [Cmd.cells] at dn
      refine PutA_of dn ?_
      rintro v Y ⟨⟨err, n, m, r, fm, fr, ps', ls', ms, R, rfl, D, H', O1, O2, n1, n2, n3⟩, FY⟩
      have lives' := does_lives D ko lives hcf.1
      have lt := H.lt
      have nb10 : h.objs.length ∉ own id idm ps := fun q => Nat.lt_irrefl _ (lt _ q)
      have ac' := FY.arr (FX.arr ac (by simp)) a1
      have al' := FY.arr (FX.arr al (by simp)) a2
      have y10 := FY.arr x10 nb10
      have lY : Y.lim = 0 := FY.lim.trans (FX.lim.trans lim)
      have l6' := arr_lt ac'
      simp only [Conf.cells] at ac'
      simp [g6, g7, ac']
      refine PutC_of (K := fun w h' => w = eI ls'.length ∧ h' = Y) ⟨_, _, live_ok H', rfl, rfl⟩ ?_
      rintro _ Z ⟨rfl, rfl⟩
      have few := lives'.few
      have few' : ¬ (cf.q < (ls'.length : Int)) := by omega
      simp [g6, g7, ac', few']
      have a1' : c6 ∉ own id idm ps' := fun q => (n1 _ q).elim a1 fun q => by omega
      have a2' : b8 ∉ own id idm ps' := fun q => (n1 _ q).elim a2 fun q => by omega
      refine inn_ok (c := c) (i := i) (c6 := c6) (b8 := b8) (b10 := h.objs.length) (ls := ls) (ls' := ls') (L := L) (acts := acts) (cf := cf) H' a2' a3 (by omega) (waits_fit lives'.fit hcf.1) (fun k hk he => does_lost D lives.keys hk he) ⟨by simp [g1], by simp [g5], by simp [g6], by simp [g7], by simp [g8], by simp, by simp, by simp, ac', y10, al', len, by omega, rfl, by simp, fun j _ hj => is j hj, Fwd.refl _ _, by omega⟩ ?_
      rintro f3 h3 L' ⟨r1, r5, r6, r7, r8, r9, r10, r12, bc, bx, bl, len', -, -, new, old, fw, lim3⟩
      simp [r9, w1]
      refine ⟨40 - (i + 1), by omega, i + 1, ps', ls', L', by simp [r1], by simp [r5], by simp [r6], by simp [r7], by simp [r8], by simp, bc, bl, len', by omega, rfl, new, H'.fwd fw (by simpa using a2'), by simpa using lives', ⟨a1', a2', a3⟩, by rw [fw.lim]; exact lY⟩
    · have hi2' : ¬ (i : Int) < 40 := by omega
      simp [g1, g9, hi, hi2, hi2']
      exact hQ _ _ (by simp [g5])
  · simp [g1, g9, hi]
    exact hQ _ _ (by simp [g5])
theorem queueBound_ok (q0 q1 : Int) (acts : List Act) (hl : acts.length ≤ maxLen) : C0 n_QueueBound [.agg [eI q0, eI q1], .p (.list (acts.map Act.pd))] ⟨[], 0⟩ = some (eB true, ⟨[], 0⟩) := by
  refine call_loc noExt_mono (f := n_QueueBound) rfl rfl rfl fun h0 e0 el => ?_
  obtain ⟨os, lim⟩ := h0
  simp at e0 el
  subst e0 el
  simp
  obtain ⟨X, eX⟩ : ∃ X : Hp, X = (⟨[], 0⟩ : Hp).new (.cells ⟨0, 2, true, 0, [[eI q0, eI q1]]⟩) := ⟨_, rfl⟩
  have aw : C0 n_qawake [] X = some (eB true, X) := by rw [eX]; exact awake_one _
  have x0 : X.arr 0 0 = some ⟨0, 2, true, 0, [[eI q0, eI q1]]⟩ := by rw [eX]; rfl
  have lX : X.lim = 0 := by rw [eX]; rfl
  have nX : X.objs.length = 1 := by rw [eX]; rfl
  rw [← eX]
  clear eX
  refine PutA_eq aw ?_
  simp [x0]
  refine PutA_eq (config_ok q0 q1 _) ?_
  simp [confOf, Conf.cells, ones, lX, nX]
  obtain ⟨a1, a2⟩ := restZ_bound (x := q0) (n := 4) (by omega)
  obtain ⟨b1, b2⟩ := restZ_bound (x := q1) (n := 6) (by omega)
  obtain ⟨Y, eY⟩ : ∃ Y, Y = (X.new (.cells ⟨0, 7, true, 0, [[eI 0, eI 0, eI 0, eI 0, eI 0, eI 0, eI 0]]⟩)).setArr 1 ⟨0, 7, true, 0, [(confOf q0 q1).cells]⟩ := ⟨_, rfl⟩
  have y1 : Y.arr 1 0 = some ⟨0, 7, true, 0, [(confOf q0 q1).cells]⟩ := by rw [eY]; simp [Hp.arr_set, nX]
  have nY : Y.objs.length = 2 := by rw [eY]; simp [nX]
  have lY : Y.lim = 0 := by rw [eY]; simp [lX]
  simp only [confOf, Conf.cells] at eY
  rw [← eY]
  clear eY
  have nw := new_ok (confOf q0 q1) Y (by omega) (by simp only [confOf]; omega)
  simp only [confOf, Conf.cells] at nw
  refine PutA_of nw ?_
  rintro v Z ⟨id, idm, rfl, H, m1, m2, f1⟩
  have z1 := f1.arr y1 (by simp)
  have lZ : Z.lim = 0 := f1.lim.trans lY
  have nZ := f1.len
  simp
  have lv : Lives (confOf q0 q1) (((0 : Nat) : Int) + 1) [] := ⟨⟨by simp, by intro y hy; cases hy⟩, by show (0 : Int) ≤ 1 + restZ q0 4; omega, by intro y hy; cases hy⟩
  have hcf : 0 ≤ (confOf q0 q1).o ∧ (confOf q0 q1).o ≤ 4096 := ⟨by show 0 ≤ 1 + restZ q1 6; omega, by show 1 + restZ q1 6 ≤ 4096; omega⟩
  have o1 : 1 ∉ own id idm [] := by simp [own]; omega
  have o2 : Z.objs.length ∉ own id idm [] := fun q => Nat.lt_irrefl _ (H.lt _ q)
  have is0 : ∀ j : Nat, j < 41 → (List.replicate 41 false)[j]? = some (isLost (j : Int) []) := fun j hj => by
    rw [List.getElem?_replicate, if_pos hj]; rfl
  have l0 : Z.lim ≤ Z.objs.length := by omega
  refine out_ok (cf := confOf q0 q1) (acts := acts) (c6 := 1) (id := id) (idm := idm) (b8 := Z.objs.length) (ps := []) (ls := []) (L := List.replicate 41 false) hcf ⟨by simp, by simp, by simp, by simp, by simp, by simp, ?_, ?_, by simp, by omega, rfl, is0, H.fwd (ids := []) ((Fwd.refl _ _).new _) (by simp), lv, ⟨o1, o2, by omega⟩, by simpa using lZ⟩ ?_
  · exact Fwd.arr ((Fwd.refl [] _).new _) z1 (by simp)
  · simp
  · intro f' h' g5
    simp [g5, Ends]

theorem ints_pt {xs : List PD} (hx : ∀ e ∈ xs, (if false = true then ∃ cs, e = .agg cs ∧ PTs [.int .i64] cs else PTs [.int .i64] [e])) : ∃ l : List Int, xs = l.map iN := by
  induction xs with
  | nil => exact ⟨[], rfl⟩
  | cons x xs ih =>
    obtain ⟨l, rfl⟩ := ih fun e he => hx e (by simp [he])
    have := hx x (by simp)
    simp only [Bool.false_eq_true, if_false, PTs, PT] at this
    obtain ⟨_, _, e, ⟨n, rfl, _⟩, rfl⟩ := this
    cases e
    exact ⟨n :: l, rfl⟩
theorem acts_pt {xs : List PD} (hx : ∀ e ∈ xs, (if true = true then ∃ cs, e = .agg cs ∧ PTs [.int .i64, .int .i64, .int .i64, .slice [.int .i64] false, .slice [.int .i64] false, .int .i64] cs else PTs [.int .i64, .int .i64, .int .i64, .slice [.int .i64] false, .slice [.int .i64] false, .int .i64] [e])) : ∃ l : List Act, xs = l.map Act.pd := by
  induction xs with
  | nil => exact ⟨[], rfl⟩
  | cons x xs ih =>
    obtain ⟨l, rfl⟩ := ih fun e he => hx e (by simp [he])
    have := hx x (by simp)
    simp only [if_true] at this
    obtain ⟨cs, rfl, hc⟩ := this
    simp only [PTs] at hc
    obtain ⟨_, _, rfl, h1, _, _, rfl, h2, _, _, rfl, h3, _, _, rfl, h4, _, _, rfl, h5, _, _, rfl, h6, rfl⟩ := hc
    simp only [PT] at h1 h2 h3 h6
    obtain ⟨k, rfl, -⟩ := h1
    obtain ⟨i, rfl, -⟩ := h2
    obtain ⟨n, rfl, -⟩ := h3
    obtain ⟨s, rfl, -⟩ := h6
    simp only [PT] at h4 h5
    obtain ⟨ys, rfl, -, h4⟩ := h4
    obtain ⟨zs, rfl, -, h5⟩ := h5
    obtain ⟨hits, rfl⟩ := ints_pt h4
    obtain ⟨lost, rfl⟩ := ints_pt h5
    exact ⟨⟨k, i, n, hits, lost, s⟩ :: l, rfl⟩
/-- A law of two numbers, and acts: from what it is in D. -/
theorem law_acts {F : Nat} (H : ∀ (q0 q1 : Int) (acts : List Act), acts.length ≤ maxLen → C0 F [.agg [eI q0, eI q1], .p (.list (acts.map Act.pd))] ⟨[], 0⟩ = some (eB true, ⟨[], 0⟩)) : ∀ xss, Typed [([.int .i64, .int .i64], true), ([.slice [.int .i64, .int .i64, .int .i64, .slice [.int .i64] false, .slice [.int .i64] false, .int .i64] true], false)] xss → C0 F (argsEV [([.int .i64, .int .i64], true), ([.slice [.int .i64, .int .i64, .int .i64, .slice [.int .i64] false, .slice [.int .i64] false, .int .i64] true], false)] xss) ⟨[], 0⟩ = some (eB true, ⟨[], 0⟩) := by
  intro xss h
  simp only [Typed, PTs] at h
  obtain ⟨_, _, rfl, ⟨_, _, rfl, ha, _, _, rfl, hb, rfl⟩, _, _, rfl, ⟨_, _, rfl, hc, rfl⟩, rfl⟩ := h
  simp only [PT] at ha hb
  obtain ⟨a, rfl, -⟩ := ha
  obtain ⟨b, rfl, -⟩ := hb
  simp only [PT] at hc
  obtain ⟨xs, rfl, hl, hx⟩ := hc
  obtain ⟨acts, rfl⟩ := acts_pt hx
  exact H a b acts (by simpa using hl)
theorem queueBound_D : ∀ xss, Typed [([.int .i64, .int .i64], true), ([.slice [.int .i64, .int .i64, .int .i64, .slice [.int .i64] false, .slice [.int .i64] false, .int .i64] true], false)] xss → C0 n_QueueBound (argsEV [([.int .i64, .int .i64], true), ([.slice [.int .i64, .int .i64, .int .i64, .slice [.int .i64] false, .slice [.int .i64] false, .int .i64] true], false)] xss) ⟨[], 0⟩ = some (eB true, ⟨[], 0⟩) := law_acts queueBound_ok
end Dk.Q
