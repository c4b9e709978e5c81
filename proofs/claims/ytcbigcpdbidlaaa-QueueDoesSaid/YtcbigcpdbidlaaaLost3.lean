/- publish's end: all outs' lost lines. -/
import Derived.Test.YtcbigcpdbidlaaaLost
set_option linter.unusedVariables false
set_option linter.unusedSimpArgs false
set_option linter.unusedSectionVars false
namespace Dk.Q
open Go Dk

structure OutV where
  hits : List Hit
  lost : List Int
  u : List PD
  d : List PD
def OutV.pd (o : OutV) : PD := .agg [rowPD o.hits, .list (o.lost.map iN), .list o.u, .list o.d]
theorem MarksDo.append {xs ys : List Int} {a b c : List (Int × Line)} (h : MarksDo xs a b) (k : MarksDo ys b c) : MarksDo (xs ++ ys) a c := by
  induction k with
  | nil => simpa using h
  | snoc _ m ih => rw [← List.append_assoc]; exact .snoc (ih h) m
def outerDC : DC := .loop [3, 4, 7, 89, 90, 91] (.seq (.ops [S 92 (.bin .lss .none (.t 91) (.t 90))])
   (.seq (.cond (.t 92)
    (.skip)
    (.exit 5))
   (.seq (.block 6 (.seq (.ops [S 93 (.ixa 4 (.t 89) (.t 91)),
      S 94 (.ld true 4 (.t 93)),
      S 15 (.new true [(.full []), (.full []), (.full []), (.full [])]),
      E (.st 4 (.t 15) (.t 94))])
    (.seq (.ops [S 95 (.fld 1 (.t 15)),
      S 96 (.ld false 1 (.t 95)),
      S 97 (.len 0 (.t 96)),
      S 98 (.mv (xI 0))])
    (.block 7 innerDC))))
   (.ops [S 114 (.bin .add .none (.t 91) (xI 1)),
     S 91 (.mv (.t 114))]))))
theorem inner_ok' {h : Hp} {id idm b3 : Nat} {ps : List (Nat × List Nat)} {cf : Conf} {ls : List (Int × Line)} {ids : List Int} {f : Fr} {k : List Ct} {Q : Ex → Fr → Hp → Prop}
    (H : DeskAt h id idm ps ⟨cf, ls⟩) (g3 : f.get 3 = .ptr b3 0 0 0) (h3 : h.arr b3 0 = some ⟨0, 1, false, 0, [[.ptr id 0 0 0]]⟩) (n3 : b3 ∉ own id idm ps) (hrow : ∀ y ∈ ls, (y.2.row.length : Int) ≤ cf.o) (hb : ids.length < 1000000)
    (g96 : f.get 96 = .p (.list (ids.map iN))) (g97 : f.get 97 = eI ids.length) (g98 : f.get 98 = eI 0)
    (hQ : ∀ f' h' ls', (∀ t ∈ [3, 4, 7, 89, 90, 91], f'.get t = f.get t) → DeskAt h' id idm ps ⟨cf, ls'⟩ → MarksDo ids ls ls' → Fwd (own id idm ps) h h' → (∀ y ∈ ls', (y.2.row.length : Int) ≤ cf.o) → Run C0 k .normal f' h' Q) :
    Run C0 (.code innerDC :: .block 7 :: k) .normal f h Q := by
  have key := inner_ok H g3 h3 n3 hrow hb g96 g97 g98 hQ
  simpa using key
structure OuAt (cf : Conf) (ls0 : List (Int × Line)) (id idm : Nat) (ps : List (Nat × List Nat)) (outs : List OutV) (f0 : Fr) (h0 : Hp) (k : Nat) (f : Fr) (h : Hp) (j : Nat) : Prop where
  le : j ≤ outs.length
  k : k = outs.length - j
  keep : ∀ t ∈ [3, 4, 7], f.get t = f0.get t
  g89 : f.get 89 = .p (.list (outs.map OutV.pd))
  g90 : f.get 90 = eI outs.length
  g91 : f.get 91 = eI j
  desk : ∃ ls, DeskAt h id idm ps ⟨cf, ls⟩ ∧ MarksDo ((outs.take j).flatMap OutV.lost) ls0 ls ∧ ∀ y ∈ ls, (y.2.row.length : Int) ≤ cf.o
  fwd : Fwd (own id idm ps) h0 h
theorem outer_ok {h : Hp} {id idm b3 : Nat} {ps : List (Nat × List Nat)} {cf : Conf} {ls : List (Int × Line)} {outs : List OutV} {f : Fr} {k : List Ct} {Q : Ex → Fr → Hp → Prop}
    (H : DeskAt h id idm ps ⟨cf, ls⟩) (hl : h.lim ≤ h.objs.length) (g3 : f.get 3 = .ptr b3 0 0 0) (h3 : h.arr b3 0 = some ⟨0, 1, false, 0, [[.ptr id 0 0 0]]⟩) (n3 : b3 ∉ own id idm ps) (hrow : ∀ y ∈ ls, (y.2.row.length : Int) ≤ cf.o) (hb : outs.length < 1000000) (hb2 : ∀ o ∈ outs, o.lost.length < 1000000)
    (g89 : f.get 89 = .p (.list (outs.map OutV.pd))) (g90 : f.get 90 = eI outs.length) (g91 : f.get 91 = eI 0)
    (hQ : ∀ f' h' ls', (∀ t ∈ [3, 4, 7], f'.get t = f.get t) → DeskAt h' id idm ps ⟨cf, ls'⟩ → MarksDo (outs.flatMap OutV.lost) ls ls' → Fwd (own id idm ps) h h' → (∀ y ∈ ls', (y.2.row.length : Int) ≤ cf.o) → Run C0 k .normal f' h' Q) :
    Run C0 (.code outerDC :: .block 5 :: k) .normal f h Q := by
  unfold outerDC
  refine Run_loop (fun q f' h' => ∃ j, OuAt cf ls id idm ps outs f h q f' h' j) (n := outs.length) ⟨0, by omega, rfl, fun _ _ => rfl, g89, g90, g91, ⟨ls, H, .nil, hrow⟩, Fwd.refl _ _⟩ ?_
  rintro q f' h' ⟨j, I⟩
  obtain ⟨ls', D, M, hr⟩ := I.desk
  have k3 := I.keep 3 (by simp)
  have k4 := I.keep 4 (by simp)
  have k7 := I.keep 7 (by simp)
  by_cases hj : (j : Int) < outs.length
  · have hj' : j < outs.length := by omega
    obtain ⟨o, ho⟩ : ∃ o, outs[j]? = some o := ⟨_, List.getElem?_eq_getElem hj'⟩
    have ho2 : outs[j] = o := (List.getElem?_eq_some_iff.1 ho).2
    have lh : h'.lim ≤ h'.objs.length := I.fwd.limlen hl
    simp [I.g89, I.g90, I.g91, hj, hj', ho2, OutV.pd, rowPD, ones, lk lh]
    obtain ⟨X, hX⟩ : ∃ X, X = (h'.new (.cells ⟨0, 4, true, 0, [[.full [], .full [], .full [], .full []]]⟩)).setArr h'.objs.length ⟨0, 4, true, 0, [[.p (.list (o.hits.map Hit.pd)), .p (.list (o.lost.map iN)), .p (.list o.u), .p (.list o.d)]]⟩ := ⟨_, rfl⟩
    rw [← hX]
    have FX : Fwd [] h' X := by rw [hX]; exact ((Fwd.refl [] h').new _).set _ (.inr (Nat.le_refl _))
    clear hX
    refine inner_ok' (D.fwd FX (by simp)) (b3 := b3) (k3.trans g3) (FX.arr (I.fwd.arr h3 n3) (by simp)) n3 hr (hb2 o (List.mem_of_getElem? ho)) rfl rfl rfl fun f2 h2 ls2 e2 D2 M2 F2 r2 => ?_
    have w1 : IntKind.i64.wrap ((j : Int) + 1) = (j : Int) + 1 := wrap64 (by omega) (by omega)
    have e91 : f2.get 91 = eI j := e2 91 (by simp)
    have e3 : f2.get 3 = f'.get 3 := e2 3 (by simp)
    have e4 : f2.get 4 = f'.get 4 := e2 4 (by simp)
    have e7 : f2.get 7 = f'.get 7 := e2 7 (by simp)
    have e89 : f2.get 89 = .p (.list (outs.map OutV.pd)) := e2 89 (by simp)
    have e90 : f2.get 90 = eI outs.length := e2 90 (by simp)
    simp [e91, w1]
    refine ⟨_, by rw [I.k]; omega, j + 1, by omega, rfl, fun t ht => ?_, ?_, ?_, by simp, ⟨ls2, D2, ?_, r2⟩, (I.fwd.trans (FX.mono (by simp))).trans F2⟩
    · simp at ht
      rcases ht with rfl | rfl | rfl <;> simp [e3, e4, e7, k3, k4, k7]
    · simpa using e89
    · simpa using e90
    · rw [List.take_add_one, ho]
      simpa using M.append M2
  · have hje : j = outs.length := by have := I.le; omega
    subst hje
    rw [List.take_length] at M
    simp [I.g89, I.g90, I.g91]
    refine hQ _ _ ls' (fun t ht => ?_) D M I.fwd hr
    simp at ht
    rcases ht with rfl | rfl | rfl <;> simp [k3, k4, k7]
end Dk.Q
