/- publish's end. -/
import Derived.Test.YtcbigcpdbidlaaaRound2
set_option linter.unusedVariables false
set_option linter.unusedSimpArgs false
set_option linter.unusedSectionVars false
namespace Dk.Q
open Go Dk

inductive MarkDoes (x : Int) : List (Int × Line) → List (Int × Line) → Prop
  | none {ls} : (∀ l ∈ ls, l.1 ≠ x) → MarkDoes x ls ls
  | mark {a b l} : (∀ y ∈ a, y.1 ≠ x) → MarkDoes x (a ++ (x, l) :: b) (a ++ (x, ⟨l.row, true⟩) :: b)
inductive MarksDo : List Int → List (Int × Line) → List (Int × Line) → Prop
  | nil {ls} : MarksDo [] ls ls
  | snoc {xs x ls ls' ls''} : MarksDo xs ls ls' → MarkDoes x ls' ls'' → MarksDo (xs ++ [x]) ls ls''

/-- One id of those that are lost: as the code has it, behind the id's load. -/
theorem mark_one {h : Hp} {id idm b3 : Nat} {ps : List (Nat × List Nat)} {cf : Conf} {ls : List (Int × Line)} {x : Int} {f : Fr} {k : List Ct} {Q : Ex → Fr → Hp → Prop}
    (H : DeskAt h id idm ps ⟨cf, ls⟩) (g3 : f.get 3 = .ptr b3 0 0 0) (g17 : f.get 17 = eI x) (h3 : h.arr b3 0 = some ⟨0, 1, false, 0, [[.ptr id 0 0 0]]⟩) (hrow : ∀ y ∈ ls, (y.2.row.length : Int) ≤ cf.o)
    (hQ : ∀ f' h' ls', (∀ t, t ≠ 18 → t < 102 → f'.get t = f.get t) → DeskAt h' id idm ps ⟨cf, ls'⟩ → MarkDoes x ls ls' → Fwd (own id idm ps) h h' → (∀ y ∈ ls', (y.2.row.length : Int) ≤ cf.o) → Run C0 k .normal f' h' Q) :
    Run C0 (.code (.seq (.ops [S 102 (.ld false 1 (.t 3)), S 103 (.nz (.t 102)), S 104 (.fld 7 (.t 103)), S 105 (.ld false 1 (.t 104)), S 106 (.mv (.t 17)), S 107 (.look .int .nilp false (.t 105) (.t 106)), S 18 (.mv (.t 107))])
      (.seq (.ops [S 108 (.mv (.t 18)), S 109 (.bin .neq .ptr (.t 108) (.v .nilp))])
      (.cond (.t 109) (.ops [S 110 (.mv (.t 18)), S 111 (.nz (.t 110)), S 112 (.fld 1 (.t 111)), E (.st 1 (.t 112) (xB true))]) .skip))) :: k) .normal f h Q := by
  have hm := mapGet_ok (ck := .int) (k := iN x) (z := .nilp) H.map (by simp [PD.alike]) (ents_alike _ _ _)
  rcases split_line x ls with hno | ⟨a, l, b, rfl, hfr⟩
  · rw [ents_none hno] at hm
    simp [g3, g17, h3, H.top, Conf.cells, hm]
    refine hQ _ _ _ (fun t h1 h2 => ?_) H (.none hno) (Fwd.refl _ _) hrow
    simp only [Fr.get]
    repeat rw [if_neg (by omega)]
  · obtain ⟨pa, p, fp, pb, rfl, hla⟩ := split_ps (ps := ps) (n := a.length) (by rw [H.len]; simp)
    rw [ents_some hla hfr] at hm
    obtain ⟨⟨w, hp, hw⟩, hpl⟩ := H.lines a.length x l p fp (by simp) (by simp [← hla])
    have hd := H.dis
    rw [own_split] at hd
    obtain ⟨d1, d2, d3⟩ := List.nodup_append.1 hd
    obtain ⟨d4, d5, d6⟩ := List.nodup_append.1 d2
    have hpn : p ∉ fp := (List.nodup_cons.1 d4).1
    have lp := arr_lt hp
    have ow := hw.one.2
    simp [g3, g17, h3, H.top, Conf.cells, hm, hp, ones, hpl, ow]
    have st : Fwd [p] h (h.setArr p ⟨0, 2, true, 0, [[w, eB true]]⟩) := (Fwd.refl _ _).set _ (.inl (by simp))
    have hL : LineAt (h.setArr p ⟨0, 2, true, 0, [[w, eB true]]⟩) p ⟨l.row, true⟩ fp :=
      ⟨⟨w, by simp [Hp.arr_set, lp], hw.fwd st fun y hy q => by simp at q; subst q; exact hpn hy⟩, by simpa using hpl⟩
    refine hQ _ _ _ (fun t h1 h2 => ?_) (H.upd hla (st.mono (ids' := p :: fp) (by simp)) hL (fun y hy => .inl hy)) (.mark hfr) (st.mono fun y hy => ?_) fun y hy => ?_
    · simp only [Fr.get]
      repeat rw [if_neg (by omega)]
    · simp at hy
      subst hy
      exact own_mem.2 (.inr (.inr ⟨(y, fp), by simp, .inl rfl⟩))
    · rcases List.mem_append.1 hy with q | q
      · exact hrow y (by simp [q])
      · rcases List.mem_cons.1 q with rfl | q
        · exact hrow (x, l) (by simp)
        · exact hrow y (by simp [q])

theorem mark_one' {h : Hp} {id idm b3 : Nat} {ps : List (Nat × List Nat)} {cf : Conf} {ls : List (Int × Line)} {x : Int} {f : Fr} {k : List Ct} {Q : Ex → Fr → Hp → Prop}
    (H : DeskAt h id idm ps ⟨cf, ls⟩) (g3 : f.get 3 = .ptr b3 0 0 0) (g17 : f.get 17 = eI x) (h3 : h.arr b3 0 = some ⟨0, 1, false, 0, [[.ptr id 0 0 0]]⟩) (hrow : ∀ y ∈ ls, (y.2.row.length : Int) ≤ cf.o)
    (hQ : ∀ f' h' ls', (∀ t, t ≠ 18 → t < 102 → f'.get t = f.get t) → DeskAt h' id idm ps ⟨cf, ls'⟩ → MarkDoes x ls ls' → Fwd (own id idm ps) h h' → (∀ y ∈ ls', (y.2.row.length : Int) ≤ cf.o) → Run C0 k .normal f' h' Q) :
    PutO C0 (some 102) (loadAt false 1 (f.get 3) h) (.ops [S 103 (.nz (.t 102)), S 104 (.fld 7 (.t 103)), S 105 (.ld false 1 (.t 104)), S 106 (.mv (.t 17)), S 107 (.look .int .nilp false (.t 105) (.t 106)), S 18 (.mv (.t 107))] ::
      .code (.seq (.ops [S 108 (.mv (.t 18)), S 109 (.bin .neq .ptr (.t 108) (.v .nilp))])
      (.cond (.t 109) (.ops [S 110 (.mv (.t 18)), S 111 (.nz (.t 110)), S 112 (.fld 1 (.t 111)), E (.st 1 (.t 112) (xB true))]) .skip)) :: k) f h Q := by
  have key := mark_one H g3 g17 h3 hrow hQ
  simpa using key

def innerDC : DC := .loop [3, 4, 7, 89, 90, 91, 96, 97, 98] (.seq (.ops [S 99 (.bin .lss .none (.t 98) (.t 97))])
      (.seq (.cond (.t 99)
       (.skip)
       (.exit 7))
      (.seq (.block 8 (.seq (.ops [S 100 (.ixa 1 (.t 96) (.t 98)),
         S 101 (.ld false 1 (.t 100)),
         S 17 (.mv (.t 101))])
       (.seq (.ops [S 102 (.ld false 1 (.t 3)), S 103 (.nz (.t 102)), S 104 (.fld 7 (.t 103)), S 105 (.ld false 1 (.t 104)), S 106 (.mv (.t 17)), S 107 (.look .int .nilp false (.t 105) (.t 106)), S 18 (.mv (.t 107))])
      (.seq (.ops [S 108 (.mv (.t 18)), S 109 (.bin .neq .ptr (.t 108) (.v .nilp))])
      (.cond (.t 109) (.ops [S 110 (.mv (.t 18)), S 111 (.nz (.t 110)), S 112 (.fld 1 (.t 111)), E (.st 1 (.t 112) (xB true))]) .skip)))))
      (.ops [S 113 (.bin .add .none (.t 98) (xI 1)),
        S 98 (.mv (.t 113))]))))
structure InAt (cf : Conf) (ls0 : List (Int × Line)) (id idm b3 : Nat) (ps : List (Nat × List Nat)) (ids : List Int) (f0 : Fr) (h0 : Hp) (k : Nat) (f : Fr) (h : Hp) (j : Nat) : Prop where
  le : j ≤ ids.length
  k : k = ids.length - j
  keep : ∀ t ∈ [3, 4, 7, 89, 90, 91], f.get t = f0.get t
  g96 : f.get 96 = .p (.list (ids.map iN))
  g97 : f.get 97 = eI ids.length
  g98 : f.get 98 = eI j
  desk : ∃ ls, DeskAt h id idm ps ⟨cf, ls⟩ ∧ MarksDo (ids.take j) ls0 ls ∧ ∀ y ∈ ls, (y.2.row.length : Int) ≤ cf.o
  fwd : Fwd (own id idm ps) h0 h
theorem inner_ok {h : Hp} {id idm b3 : Nat} {ps : List (Nat × List Nat)} {cf : Conf} {ls : List (Int × Line)} {ids : List Int} {f : Fr} {k : List Ct} {Q : Ex → Fr → Hp → Prop}
    (H : DeskAt h id idm ps ⟨cf, ls⟩) (g3 : f.get 3 = .ptr b3 0 0 0) (h3 : h.arr b3 0 = some ⟨0, 1, false, 0, [[.ptr id 0 0 0]]⟩) (n3 : b3 ∉ own id idm ps) (hrow : ∀ y ∈ ls, (y.2.row.length : Int) ≤ cf.o) (hb : ids.length < 1000000)
    (g96 : f.get 96 = .p (.list (ids.map iN))) (g97 : f.get 97 = eI ids.length) (g98 : f.get 98 = eI 0)
    (hQ : ∀ f' h' ls', (∀ t ∈ [3, 4, 7, 89, 90, 91], f'.get t = f.get t) → DeskAt h' id idm ps ⟨cf, ls'⟩ → MarksDo ids ls ls' → Fwd (own id idm ps) h h' → (∀ y ∈ ls', (y.2.row.length : Int) ≤ cf.o) → Run C0 k .normal f' h' Q) :
    Run C0 (.code (.block 7 innerDC) :: k) .normal f h Q := by
  unfold innerDC
  simp
  refine Run_loop (fun q f' h' => ∃ j, InAt cf ls id idm b3 ps ids f h q f' h' j) (n := ids.length) ⟨0, by omega, rfl, fun _ _ => rfl, g96, g97, g98, ⟨ls, H, .nil, hrow⟩, Fwd.refl _ _⟩ ?_
  rintro q f' h' ⟨j, I⟩
  obtain ⟨ls', D, M, hr⟩ := I.desk
  by_cases hj : (j : Int) < ids.length
  · have hj' : j < ids.length := by omega
    obtain ⟨x, hx⟩ : ∃ x, ids[j]? = some x := ⟨_, List.getElem?_eq_getElem hj'⟩
    have hx2 : ids[j] = x := (List.getElem?_eq_some_iff.1 hx).2
    simp [I.g96, I.g97, I.g98, hj, hj', hx2]
    have k3 := I.keep 3 (by simp)
    have k4 := I.keep 4 (by simp)
    have k7 := I.keep 7 (by simp)
    have k89 := I.keep 89 (by simp)
    have k90 := I.keep 90 (by simp)
    have k91 := I.keep 91 (by simp)
    refine mark_one' (f := [(17, .p (.int .i64 x)), (101, .p (.int .i64 x)), (100, .cp [.int .i64 x] 0), (99, .p (.bool true)), (3, f'.get 3), (4, f'.get 4), (7, f'.get 7), (89, f'.get 89), (90, f'.get 90), (91, f'.get 91), (96, .p (.list (ids.map iN))), (97, eI ids.length), (98, eI j)]) D (b3 := b3) (k3.trans g3) rfl (I.fwd.arr h3 n3) hr fun f2 h2 ls2 e2 D2 M2 F2 r2 => ?_
    have w1 : IntKind.i64.wrap ((j : Int) + 1) = (j : Int) + 1 := wrap64 (by omega) (by omega)
    have e98 : f2.get 98 = eI j := by rw [e2 98 (by omega) (by omega)]; simp
    simp [e98, w1]
    refine ⟨_, by rw [I.k]; omega, j + 1, by omega, rfl, fun t ht => ?_, ?_, ?_, by simp, ⟨ls2, D2, by rw [List.take_add_one, hx]; exact .snoc M M2, r2⟩, I.fwd.trans F2⟩
    · simp at ht
      rcases ht with rfl | rfl | rfl | rfl | rfl | rfl <;> simp [e2, k3, k4, k7, k89, k90, k91]
    · simp [e2]
    · simp [e2]
  · have hje : j = ids.length := by have := I.le; omega
    subst hje
    rw [List.take_length] at M
    simp [I.g96, I.g97, I.g98]
    refine hQ _ _ ls' (fun t ht => ?_) D M I.fwd hr
    have := I.keep t ht
    simp at ht
    rcases ht with rfl | rfl | rfl | rfl | rfl | rfl <;> simp [this]
end Dk.Q
