/- A query's text. -/
import Derived.Test.YtfdghdmdjfgjiaaGreatDoorPrintable
set_option linter.unusedVariables false
set_option linter.unusedSimpArgs false
set_option linter.unusedSectionVars false
namespace Dk.C
open Go Dk

def pEl : DC := .seq (.seq (.ops [S 13 (.mv (.t 5)),
     S 14 (.fld 0 (.t 1)),
     S 15 (.ld false 1 (.t 14)),
     S 16 (.len 0 (.t 15)),
     S 17 (.bin .lss .none (.t 13) (.t 16))])
   (.cond (.t 17)
    (.skip)
    (.exit 0)))
   (.seq (.block 1 (.seq (.ops [S 20 (.fld 0 (.t 1)),
      S 21 (.ld false 1 (.t 20)),
      S 22 (.mv (.t 5)),
      S 23 (.ixa 4 (.t 21) (.t 22)),
      S 24 (.ld true 4 (.t 23)),
      S 6 (.new true [(eI 0), (.p (.str (bs []))), (eB false), (eB false)]),
      E (.st 4 (.t 6) (.t 24))])
    (.seq (.seq (.ops [S 25 (.mv (.t 5)),
      S 26 (.bin .gtr .none (.t 25) (xI 0))])
    (.cond (.t 26)
     (.ops [S 27 (.mv (.t 4)),
       S 28 (.bin .add .none (.t 27) (.v (.p (.str (bs [44, 32]))))),
       S 4 (.mv (.t 28))])
     (.skip)))
    (.seq (.seq (.ops [S 29 (.fld 3 (.t 6)),
      S 30 (.ld false 1 (.t 29))])
    (.cond (.t 30)
     (.ops [S 31 (.mv (.t 4)),
       S 32 (.bin .add .none (.t 31) (.v (.p (.str (bs [33]))))),
       S 4 (.mv (.t 32))])
     (.skip)))
    (.seq (.ops [S 33 (.mv (.t 4)),
      S 34 (.fld 0 (.t 6)),
      S 35 (.ld false 1 (.t 34)),
      S 36 (.fld 0 (.t 6)),
      S 37 (.ld false 1 (.t 36)),
      S 38 (.bin .add .none (.t 37) (xI 1)),
      S 39 (.sls (.v (.p (.str (bs [65, 66, 67, 68, 69, 70, 71, 72])))) (some (.t 35)) (some (.t 38))),
      S 40 (.bin .add .none (.t 33) (.t 39)),
      S 4 (.mv (.t 40))])
    (.seq (.seq (.ops [S 41 (.fld 2 (.t 6)),
      S 42 (.ld false 1 (.t 41))])
    (.cond (.t 42)
     (.ops [S 43 (.mv (.t 4)),
       S 44 (.bin .add .none (.t 43) (.v (.p (.str (bs [43]))))),
       S 4 (.mv (.t 44))])
     (.skip)))
    (.ops [S 45 (.mv (.t 4)),
      S 46 (.bin .add .none (.t 45) (.v (.p (.str (bs [32]))))),
      S 47 (.fld 1 (.t 6)),
      S 48 (.ld false 1 (.t 47)),
      S 49 (.bin .add .none (.t 46) (.t 48)),
      S 4 (.mv (.t 49))])))))))
   (.ops [S 18 (.mv (.t 5)),
     S 19 (.bin .add .none (.t 18) (xI 1)),
     S 5 (.mv (.t 19))]))
def pCo : DC := .seq (.seq (.ops [S 51 (.mv (.t 8)),
     S 52 (.fld 1 (.t 1)),
     S 53 (.ld false 1 (.t 52)),
     S 54 (.len 0 (.t 53)),
     S 55 (.bin .lss .none (.t 51) (.t 54))])
   (.cond (.t 55)
    (.skip)
    (.exit 2)))
   (.seq (.block 3 (.seq (.seq (.ops [S 58 (.mv (.t 8)),
      S 59 (.bin .eql .none (.t 58) (xI 0))])
    (.cond (.t 59)
     (.ops [S 60 (.mv (.t 4)),
       S 61 (.bin .add .none (.t 60) (.v (.p (.str (bs [32, 119, 104, 101, 114, 101, 32]))))),
       S 4 (.mv (.t 61))])
     (.ops [S 62 (.mv (.t 4)),
       S 63 (.bin .add .none (.t 62) (.v (.p (.str (bs [32, 97, 110, 100, 32]))))),
       S 4 (.mv (.t 63))])))
    (.ops [S 64 (.mv (.t 4)),
      S 65 (.fld 1 (.t 1)),
      S 66 (.ld false 1 (.t 65)),
      S 67 (.mv (.t 8)),
      S 68 (.ixa 3 (.t 66) (.t 67)),
      S 69 (.fld 1 (.t 68)),
      S 70 (.ld false 1 (.t 69)),
      S 73 (.fld 1 (.t 1)),
      S 74 (.ld false 1 (.t 73)),
      S 75 (.mv (.t 8)),
      S 76 (.ixa 3 (.t 74) (.t 75)),
      S 77 (.fld 0 (.t 76)),
      S 78 (.ld false 1 (.t 77)),
      S 79 (.bin .sub .none (.t 78) (xI 1)),
      S 80 (.ixp 6 1 (.t 7) (.t 79)),
      S 81 (.ld false 1 (.t 80)),
      S 83 (.fld 1 (.t 1)),
      S 84 (.ld false 1 (.t 83)),
      S 85 (.mv (.t 8)),
      S 86 (.ixa 3 (.t 84) (.t 85)),
      S 87 (.fld 2 (.t 86)),
      S 88 (.ld false 1 (.t 87)),
      ⟨(some 71), .call n_Text [(.t 70)], none, [(88, .ld false 1 (.t 87), none), (84, .ld false 1 (.t 83), none), (81, .ld false 1 (.t 80), none), (78, .ld false 1 (.t 77), none), (74, .ld false 1 (.t 73), none)]⟩,
      S 72 (.bin .add .none (.t 64) (.t 71)),
      S 82 (.bin .add .none (.t 72) (.t 81)),
      ⟨(some 89), .call n_Text [(.t 88)], none, [(81, .ld false 1 (.t 80), none), (78, .ld false 1 (.t 77), none), (74, .ld false 1 (.t 73), none)]⟩,
      S 90 (.bin .add .none (.t 82) (.t 89)),
      S 4 (.mv (.t 90))])))
   (.ops [S 56 (.mv (.t 8)),
     S 57 (.bin .add .none (.t 56) (xI 1)),
     S 8 (.mv (.t 57))]))
theorem print_elems {q : Qry} (ok : QryOK q) (hgo : ∀ e ∈ q.es, goodE e) {h : Hp} {f : Fr} {b : Nat} {s0 : ByteArray} {Q : Ex → Fr → Hp → Prop} {ks : List Ct} (g1 : f.get 1 = .ptr b 0 0 0) (g4 : f.get 4 = .p (.str s0)) (g5 : f.get 5 = eI 0) (ab : h.arr b 0 = some ⟨0, 4, true, 0, [q.cells]⟩) (hs : s0.size ≤ 10) (hl : h.lim ≤ h.objs.length)
    (hQ : ∀ f' h' s, f'.get 1 = .ptr b 0 0 0 → f'.get 4 = .p (.str s) → s.size ≤ 2000 → Fwd [] h h' → Run C0 ks .normal f' h' Q) : Run C0 (.code (.loop [1, 4, 5] pEl) :: .block 0 :: ks) .normal f h Q := by
  have el1 := ok.el
  refine Run_loop (fun z f h' => ∃ (i : Nat) (s : ByteArray), f.get 1 = .ptr b 0 0 0 ∧ f.get 4 = .p (.str s) ∧ f.get 5 = eI i ∧ i ≤ q.es.length ∧ z = q.es.length - i ∧ s.size ≤ 10 + 10 * i ∧ Fwd [] h h') (n := q.es.length) ⟨0, s0, g1, g4, g5, by omega, rfl, by omega, Fwd.refl _ _⟩ ?_
  rintro z f2 h2 ⟨i, s, k1, k4, k5, ile, hz, hsz, F⟩
  have x0 := F.arr ab (by simp)
  have l0 := arr_lt x0
  have l2 := F.limlen hl
  simp only [Qry.cells] at x0
  simp only [pEl]
  by_cases hi : i < q.es.length
  · obtain ⟨e, he⟩ : ∃ e, q.es[i]? = some e := ⟨_, List.getElem?_eq_getElem hi⟩
    have he2 := (List.getElem?_eq_some_iff.1 he).2
    have hv := (ok.es e (List.mem_of_getElem? he)).size
    have hg := hgo e (List.mem_of_getElem? he)
    have w1 : IntKind.i64.wrap ((i : Int) + 1) = (i : Int) + 1 := wrap64 (by omega) (by omega)
    have w2 : IntKind.i64.wrap (e.ty + 1) = e.ty + 1 := wrap64 (by have := hg.1; omega) (by have := hg.2; omega)
    obtain ⟨t, st, rt⟩ := sls_one (s := bs [65, 66, 67, 68, 69, 70, 71, 72]) (k := e.ty) (by have := hg.1; have := hg.2; simp [bs_size]; omega)
    simp [k1, k4, k5, x0, hi, he2, Elem.pd, nl l0, ones, l2]
    obtain ⟨X, eX⟩ : ∃ X, X = (h2.new (.cells ⟨0, 4, true, 0, [[eI 0, .p (.str (bs [])), eB false, eB false]]⟩)).setArr h2.objs.length ⟨0, 4, true, 0, [e.cells]⟩ := ⟨_, rfl⟩
    have FX : Fwd [] h2 X := by rw [eX]; exact ((Fwd.refl _ _).new _).set _ (.inr (by simp))
    have x6 : X.arr h2.objs.length 0 = some ⟨0, 4, true, 0, [e.cells]⟩ := by rw [eX]; simp [Hp.arr_set]
    simp only [Elem.cells] at eX x6
    rw [← eX]
    clear eX
    have l6 := arr_lt x6
    have b1 : ∀ {u : ByteArray} (l : List Nat), u.size ≤ 2000 → l.length ≤ 3 → u.size + (bs l).size < 4294967296 := fun l h1 h2 => by rw [bs_size]; omega
    refine Br_join (fun f' h' => h' = X ∧ f'.get 1 = .ptr b 0 0 0 ∧ f'.get 5 = eI i ∧ f'.get 6 = .ptr h2.objs.length 0 0 0 ∧ ∃ s' : ByteArray, f'.get 4 = .p (.str s') ∧ s'.size ≤ s.size + 2) ?_ ?_
    · by_cases h0 : 0 < i
      · simp [h0, k1, k4, k5, bin_sadd _ (b1 (u := s) [44, 32] (by omega) (by simp)), size_add, bs_size]
      · simp [h0, k1, k4, k5]
    rintro f3 h3 ⟨e3, m1, m5, m6, s3, m4, z3⟩
    have e3 := e3.symm
    subst e3
    simp [m6, x6, nl l6]
    refine Br_join (fun f' h' => h' = X ∧ f'.get 1 = .ptr b 0 0 0 ∧ f'.get 5 = eI i ∧ f'.get 6 = .ptr h2.objs.length 0 0 0 ∧ ∃ s' : ByteArray, f'.get 4 = .p (.str s') ∧ s'.size ≤ s.size + 3) ?_ ?_
    · cases e.not
      · simp [m1, m4, m5, m6]; omega
      · simp [m1, m4, m5, m6, bin_sadd _ (b1 (u := s3) [33] (by omega) (by simp)), size_add, bs_size]; omega
    rintro f4 h3 ⟨e3, n1, n5, n6, s4, n4, z4⟩
    have e3 := e3.symm
    subst e3
    have q4 : s4.size + t.size < 4294967296 := by omega
    simp [n1, n4, n5, n6, x6, nl l6, w2]
    rw [rt]
    simp [n6, bin_sadd _ q4, x6, nl l6]
    refine Br_join (fun f' h' => h' = X ∧ f'.get 1 = .ptr b 0 0 0 ∧ f'.get 5 = eI i ∧ f'.get 6 = .ptr h2.objs.length 0 0 0 ∧ ∃ s' : ByteArray, f'.get 4 = .p (.str s') ∧ s'.size ≤ s.size + 5) ?_ ?_
    · cases e.plus
      · simp [n1, n5, n6, size_add]; omega
      · simp [n1, n5, n6, bin_sadd _ (b1 (u := s4 ++ t) [43] (by simp [size_add]; omega) (by simp)), size_add, bs_size]; omega
    rintro f5 h3 ⟨e3, p1, p5, p6, s5, p4, z5⟩
    have e3 := e3.symm
    subst e3
    have q5 : (s5 ++ bs [32]).size + e.v.size < 4294967296 := by simp [size_add, bs_size]; omega
    simp [p1, p4, p5, p6, x6, nl l6, bin_sadd _ (b1 (u := s5) [32] (by omega) (by simp)), bin_sadd _ q5, w1]
    exact ⟨q.es.length - (i + 1), by omega, i + 1, by simp, by omega, rfl, by simp [bs_size]; omega, F.trans FX⟩
  · obtain rfl : i = q.es.length := by omega
    simp [k1, k5, x0, nl l0]
    exact hQ _ h2 s (by simp [k1]) (by simp [k4]) (by omega) F

theorem print_conds {q : Qry} (ok : QryOK q) (hgc : ∀ c ∈ q.cs, goodC c) {h : Hp} {f : Fr} {b o : Nat} {s0 : ByteArray} {Q : Ex → Fr → Hp → Prop} {ks : List Ct} (g1 : f.get 1 = .ptr b 0 0 0) (g4 : f.get 4 = .p (.str s0)) (g7 : f.get 7 = .ptr o 0 0 0) (g8 : f.get 8 = eI 0) (ab : h.arr b 0 = some ⟨0, 4, true, 0, [q.cells]⟩)
    (ao : h.arr o 0 = some ⟨0, 6, true, 0, [[.p (.str (bs [32, 61, 32])), .p (.str (bs [32, 33, 61, 32])), .p (.str (bs [32, 60, 32])), .p (.str (bs [32, 60, 61, 32])), .p (.str (bs [32, 62, 32])), .p (.str (bs [32, 62, 61, 32]))]]⟩) (hs : s0.size ≤ 2000) (hl : h.lim ≤ h.objs.length)
    (hQ : ∀ f' s, f'.get 1 = .ptr b 0 0 0 → f'.get 4 = .p (.str s) → s.size ≤ 2002000 → Run C0 ks .normal f' h Q) : Run C0 (.code (.loop [1, 4, 7, 8] pCo) :: .block 2 :: ks) .normal f h Q := by
  have cl1 := ok.cl
  refine Run_loop (fun z f h' => ∃ (i : Nat) (s : ByteArray), h' = h ∧ f.get 1 = .ptr b 0 0 0 ∧ f.get 4 = .p (.str s) ∧ f.get 7 = .ptr o 0 0 0 ∧ f.get 8 = eI i ∧ i ≤ q.cs.length ∧ z = q.cs.length - i ∧ s.size ≤ 2000 + 20000 * i) (n := q.cs.length) ⟨0, s0, rfl, g1, g4, g7, g8, by omega, rfl, by omega⟩ ?_
  rintro z f2 h2 ⟨i, s, e2, k1, k4, k7, k8, ile, hz, hsz⟩
  have e2 := e2.symm
  subst e2
  have l0 := arr_lt ab
  have lo := arr_lt ao
  simp only [Qry.cells] at ab
  simp only [pCo]
  by_cases hi : i < q.cs.length
  · obtain ⟨c, hc⟩ : ∃ c, q.cs[i]? = some c := ⟨_, List.getElem?_eq_getElem hi⟩
    have hc2 := (List.getElem?_eq_some_iff.1 hc).2
    have cok := ok.cs c (List.mem_of_getElem? hc)
    obtain ⟨s1, s2, o1, o6⟩ := hgc c (List.mem_of_getElem? hc)
    have w1 : IntKind.i64.wrap ((i : Int) + 1) = (i : Int) + 1 := wrap64 (by omega) (by omega)
    have w2 : IntKind.i64.wrap (c.op - 1) = c.op - 1 := wrap64 (by omega) (by omega)
    obtain ⟨t1, z1, r1⟩ := text_ok cok.l.ok cok.l.len s1 hl
    obtain ⟨t2, z2, r2⟩ := text_ok cok.r.ok cok.r.len s2 hl
    have zl := cok.l.len
    have zr := cok.r.len
    simp [k1, k4, k7, k8, ab, nl l0, hi]
    refine Br_join (fun f' h' => h' = h ∧ f'.get 1 = .ptr b 0 0 0 ∧ f'.get 7 = .ptr o 0 0 0 ∧ f'.get 8 = eI i ∧ ∃ s' : ByteArray, f'.get 4 = .p (.str s') ∧ s'.size ≤ s.size + 7) ?_ ?_
    · have q1 : s.size + (bs [32, 119, 104, 101, 114, 101, 32]).size < 4294967296 := by simp [bs_size]; omega
      have q2 : s.size + (bs [32, 97, 110, 100, 32]).size < 4294967296 := by simp [bs_size]; omega
      by_cases h0 : i = 0
      · simp [h0, k1, k4, k7, k8, bin_sadd _ q1, size_add, bs_size]
      · simp [h0, k1, k4, k7, k8, bin_sadd _ q2, size_add, bs_size]
    rintro f3 h3 ⟨e3, m1, m7, m8, s3, m4, z3⟩
    have e3 := e3.symm
    subst e3
    simp [m1, m4, m7, m8, ab, nl l0, hi, hc2, Cnd.pd, w2]
    obtain ⟨u, p, zu, hp, hld⟩ : ∃ (u : ByteArray) (p : EV), u.size ≤ 4 ∧ ixpAt 6 1 (.ptr o 0 0 0) (eI (c.op - 1)) = some p ∧ loadAt false 1 p h = some (.p (.str u)) := by
      have ho : c.op = 1 ∨ c.op = 2 ∨ c.op = 3 ∨ c.op = 4 ∨ c.op = 5 ∨ c.op = 6 := by omega
      rcases ho with ho | ho | ho | ho | ho | ho <;> rw [ho]
      · exact ⟨bs [32, 61, 32], .ptr o 0 0 0, by simp [bs_size], by simp [ixpAt, idx], by simp [loadAt, ao, mk, EV.one]⟩
      · exact ⟨bs [32, 33, 61, 32], .ptr o 0 0 1, by simp [bs_size], by simp [ixpAt, idx], by simp [loadAt, ao, mk, EV.one]⟩
      · exact ⟨bs [32, 60, 32], .ptr o 0 0 2, by simp [bs_size], by simp [ixpAt, idx], by simp [loadAt, ao, mk, EV.one]⟩
      · exact ⟨bs [32, 60, 61, 32], .ptr o 0 0 3, by simp [bs_size], by simp [ixpAt, idx], by simp [loadAt, ao, mk, EV.one]⟩
      · exact ⟨bs [32, 62, 32], .ptr o 0 0 4, by simp [bs_size], by simp [ixpAt, idx], by simp [loadAt, ao, mk, EV.one]⟩
      · exact ⟨bs [32, 62, 61, 32], .ptr o 0 0 5, by simp [bs_size], by simp [ixpAt, idx], by simp [loadAt, ao, mk, EV.one]⟩
    rw [hp]
    have q3 : s3.size + t1.size < 4294967296 := by omega
    have q4 : (s3 ++ t1).size + u.size < 4294967296 := by simp [size_add]; omega
    have q5 : (s3 ++ t1 ++ u).size + t2.size < 4294967296 := by simp [size_add]; omega
    have eqs : ∀ x : PD, EV.eqb (.p x) (.p x) = true := fun x => by simp [EV.eqb]
    simp [m1, m4, m7, m8, ab, nl l0, hi, hc2, Cnd.pd, hld]
    refine PutC_of (K := fun w h' => w = .p (.str t1) ∧ h' = h) ⟨_, _, r1, rfl, rfl⟩ ?_
    rintro _ h4 ⟨rfl, e4⟩
    rw [e4]
    simp [m1, m4, m7, m8, ab, nl l0, hi, hc2, Cnd.pd, hld, eqs, bin_sadd _ q3, bin_sadd _ q4]
    refine PutC_of (K := fun w h' => w = .p (.str t2) ∧ h' = h) ⟨_, _, r2, rfl, rfl⟩ ?_
    rintro _ h5 ⟨rfl, e5⟩
    rw [e5]
    simp [m1, m4, m7, m8, ab, nl l0, hi, hc2, Cnd.pd, hld, eqs, bin_sadd _ q5, w1]
    refine ⟨q.cs.length - (i + 1), by omega, i + 1, rfl, by omega, rfl, by omega⟩
  · obtain rfl : i = q.cs.length := by omega
    simp [k1, k8, ab, nl l0]
    exact hQ _ s (by simp [k1]) (by simp [k4]) (by omega)

theorem print_ok {q : Qry} (ok : QryOK q) {h : Hp} (hh : h.lim ≤ h.objs.length) : ∃ s : ByteArray, s.size ≤ 3000000 ∧ C0 n_rPrint [.agg q.cells] h = some (.p (.str s), h) := by
  suffices hw : ∃ v, (∃ s : ByteArray, v = .p (.str s) ∧ s.size ≤ 3000000) ∧ C0 n_rPrint [.agg q.cells] h = some (v, h) by
    obtain ⟨v, ⟨s, rfl, e⟩, z⟩ := hw
    exact ⟨s, e, z⟩
  refine call_locX noExt_mono (f := n_rPrint) rfl rfl (fun v ⟨s, e, _⟩ => by subst e; rfl) fun h0 e0 el => ?_
  have hl : h0.lim ≤ h0.objs.length := by omega
  simp [Qry.cells, ones]
  obtain ⟨X, eX⟩ : ∃ X, X = h0.new (.cells ⟨0, 4, true, 0, [q.cells]⟩) := ⟨_, rfl⟩
  have x0 : X.arr h0.objs.length 0 = some ⟨0, 4, true, 0, [q.cells]⟩ := by rw [eX]; simp
  have lX : X.lim ≤ X.objs.length := by rw [eX]; simp; omega
  obtain ⟨b, hb, rp⟩ := printable_ok ok lX
  simp only [Qry.cells] at eX rp
  rw [← eX]
  clear eX
  refine PutA_eq rp ?_
  cases b
  · simp [Ends, bs_size]
  obtain ⟨hge, hgc⟩ := hb rfl
  simp
  refine print_elems (q := q) (b := h0.objs.length) (s0 := bs [115, 101, 113, 32]) ok hge (by simp) (by simp) (by simp) x0 (by simp [bs_size]) lX ?_
  intro f2 h2 s g1 g4 hsz F2
  have l2 := F2.limlen lX
  simp [g1, g4, ones, l2]
  obtain ⟨Y, eY⟩ : ∃ Y, Y = (h2.new (.cells ⟨0, 6, true, 0, [[.p (.str (bs [])), .p (.str (bs [])), .p (.str (bs [])), .p (.str (bs [])), .p (.str (bs [])), .p (.str (bs []))]]⟩)).setArr h2.objs.length ⟨0, 6, true, 0, [[.p (.str (bs [32, 61, 32])), .p (.str (bs [32, 33, 61, 32])), .p (.str (bs [32, 60, 32])), .p (.str (bs [32, 60, 61, 32])), .p (.str (bs [32, 62, 32])), .p (.str (bs [32, 62, 61, 32]))]]⟩ := ⟨_, rfl⟩
  have FY : Fwd [] h2 Y := by rw [eY]; exact ((Fwd.refl _ _).new _).set _ (.inr (by simp))
  have yo : Y.arr h2.objs.length 0 = some ⟨0, 6, true, 0, [[.p (.str (bs [32, 61, 32])), .p (.str (bs [32, 33, 61, 32])), .p (.str (bs [32, 60, 32])), .p (.str (bs [32, 60, 61, 32])), .p (.str (bs [32, 62, 32])), .p (.str (bs [32, 62, 61, 32]))]]⟩ := by rw [eY]; simp [Hp.arr_set]
  rw [← eY]
  clear eY
  have y0 := FY.arr (F2.arr x0 (by simp)) (by simp)
  have ly := arr_lt y0
  refine print_conds (q := q) (b := h0.objs.length) (o := h2.objs.length) (s0 := s) ok hgc (by simp [g1]) (by simp [g4]) (by simp) (by simp) y0 yo hsz (FY.limlen l2) ?_
  intro f3 s3 k1 k4 hsz3
  simp only [Qry.cells] at y0
  have b1 : s3.size + (bs [32, 119, 105, 116, 104, 105, 110, 32]).size < 4294967296 := by simp [bs_size]; omega
  obtain ⟨t, st, rt⟩ := digits_ok ok.w (FY.limlen l2)
  have b2 : (s3 ++ bs [32, 119, 105, 116, 104, 105, 110, 32]).size + t.size < 4294967296 := by simp [size_add, bs_size]; omega
  have b3 : (s3 ++ bs [32, 119, 105, 116, 104, 105, 110, 32] ++ t).size + (bs [32, 98, 121, 32, 107, 101, 121]).size < 4294967296 := by simp [size_add, bs_size]; omega
  simp [k1, k4, y0, nl ly, bin_sadd _ b1]
  refine PutA_eq rt ?_
  cases hk : q.k
  · simp [k1, k4, y0, nl ly, bin_sadd _ b2, hk, Ends, size_add, bs_size]
    omega
  · simp [k1, k4, y0, nl ly, bin_sadd _ b2, bin_sadd _ b3, hk, Ends, size_add, bs_size]
    omega
end Dk.C
