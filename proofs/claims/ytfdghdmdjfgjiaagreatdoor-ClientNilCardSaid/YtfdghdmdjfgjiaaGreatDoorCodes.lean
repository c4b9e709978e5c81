/- Codes by plain numbers. -/
import Derived.Test.YtfdghdmdjfgjiaaGreatDoorShows
import Derived.Test.YtfdghdmdjfgjiaaGreatDoorPrint
import Derived.Test.YtfdghdmdjfgjiaaGreatDoorNext
set_option linter.unusedVariables false
set_option linter.unusedSimpArgs false
set_option linter.unusedSectionVars false
namespace Dk.C
open Go Dk

def cBody : DC := .seq (.seq (.ops [S 30 (.mv (.t 8)),
     S 31 (.mv (.t 2)),
     S 32 (.bin .lss .none (.t 30) (.t 31)),
     S 33 (.mv (.t 32)),
     ⟨(some 34), .mv (.t 0), (some (33, true)), []⟩,
     ⟨(some 35), .call n_Next [(.t 34), (xI 3)], (some (33, true)), []⟩,
     ⟨(some 36), .bin .eql .none (.t 35) (xI 0), (some (33, true)), []⟩,
     S 37 (.pick (.t 33) (.t 36) (xB false))])
   (.cond (.t 37)
    (.skip)
    (.exit 1)))
   (.seq (.block 2 (.seq (.seq (.ops [S 40 (.mv (.t 0)),
      S 41 (.call n_Next [(.t 40), (xI 5)]),
      S 42 (.bin .eql .none (.t 41) (xI 0))])
    (.cond (.t 42)
     (.seq (.ops [S 43 (.mv (.t 7)),
       S 44 (.build [(eI 0), (eI 0), (.p (.str (bs []))), (eI 0), (eI 0)] [(0, 1, (xI 9))]),
       S 45 (.lit 5 true [[(eI 0), (eI 0), (.p (.str (bs []))), (eI 0), (eI 0)]] [(0, (.t 44))]),
       S 46 (.app 5 true 48 (.t 43) (.t 45)),
       S 7 (.mv (.t 46))])
     (.exit 2))
     (.skip)))
    (.seq (.ops [S 47 (.mv (.t 0)),
      S 48 (.call n_Next [(.t 47), (xI 4)]),
      S 49 (.build [(eI 0), (eI 0), (.p (.str (bs []))), (eI 0), (eI 0)] [(0, 1, (xI 6)), (1, 1, (.t 48))]),
      S 50 (.lit 5 true [[(eI 0), (eI 0), (.p (.str (bs []))), (eI 0), (eI 0)]] [(0, (.t 49))]),
      S 9 (.mv (.t 50))])
    (.seq (.seq (.ops [S 51 (.mv (.t 0)),
      S 52 (.call n_Next [(.t 51), (xI 2)]),
      S 53 (.bin .eql .none (.t 52) (xI 0))])
    (.cond (.t 53)
     (.ops [S 54 (.mv (.t 1)),
       S 55 (.mv (.t 0)),
       S 56 (.mv (.t 1)),
       S 57 (.len 0 (.t 56)),
       S 61 (.mv (.t 0)),
       S 58 (.call n_Next [(.t 55), (.t 57)]),
       S 59 (.ixa 1 (.t 54) (.t 58)),
       S 60 (.ld false 1 (.t 59)),
       ⟨(some 62), .call n_Next [(.t 61), (xI 2)], none, [(60, .ld false 1 (.t 59), none)]⟩,
       S 63 (.build [(eI 0), (eI 0), (.p (.str (bs []))), (eI 0), (eI 0)] [(0, 1, (xI 7)), (2, 1, (.t 60)), (3, 1, (.t 62))]),
       S 64 (.lit 5 true [[(eI 0), (eI 0), (.p (.str (bs []))), (eI 0), (eI 0)]] [(0, (.t 63))]),
       S 9 (.mv (.t 64))])
     (.skip)))
    (.seq (.ops [S 65 (.mv (.t 0)),
      S 66 (.call n_Next [(.t 65), (xI 5)]),
      S 67 (.bin .add .none (xI 1) (.t 66)),
      S 68 (.build [(eI 0), (eI 0), (.p (.str (bs []))), (eI 0), (eI 0)] [(0, 1, (.t 67))]),
      S 10 (.new true [(eI 0), (eI 0), (.p (.str (bs []))), (eI 0), (eI 0)]),
      E (.st 5 (.t 10) (.t 68))])
    (.seq (.ops [S 69 (.mv (.t 0)),
      S 70 (.call n_Next [(.t 69), (xI 2)]),
      S 71 (.bin .eql .none (.t 70) (xI 0))])
    (.cond (.t 71)
     (.ops [S 72 (.mv (.t 7)),
       S 73 (.mv (.t 9)),
       S 75 (.ld true 5 (.t 10)),
       S 76 (.lit 5 true [[(eI 0), (eI 0), (.p (.str (bs []))), (eI 0), (eI 0)]] [(0, (.t 75))]),
       ⟨(some 74), .app 5 true 48 (.t 72) (.t 73), none, [(75, .ld true 5 (.t 10), none)]⟩,
       S 77 (.app 5 true 48 (.t 74) (.t 76)),
       S 7 (.mv (.t 77))])
     (.ops [S 78 (.mv (.t 9)),
       S 79 (.mv (.t 7)),
       S 81 (.ld true 5 (.t 10)),
       S 82 (.lit 5 true [[(eI 0), (eI 0), (.p (.str (bs []))), (eI 0), (eI 0)]] [(0, (.t 81))]),
       ⟨(some 80), .app 5 true 48 (.t 78) (.t 79), none, [(81, .ld true 5 (.t 10), none)]⟩,
       S 83 (.app 5 true 48 (.t 80) (.t 82)),
       S 7 (.mv (.t 83))]))))))))
   (.ops [S 38 (.mv (.t 8)),
     S 39 (.bin .add .none (.t 38) (xI 1)),
     S 8 (.mv (.t 39))]))
/-- Names: a row of one's own. -/
structure Names (h : Hp) (v : EV) (nms : List ByteArray) (fn : List Nat) : Prop where
  own : Own h 1 false v (nms.map fun s => [.p (.str s)]) fn
  ok : ∀ s ∈ nms, isVar s
  len : 0 < nms.length ∧ nms.length ≤ 10
theorem Names.fwd {h h' : Hp} {v : EV} {nms : List ByteArray} {fn ids : List Nat} (N : Names h v nms fn) (f : Fwd ids h h') (hi : ∀ y ∈ fn, y ∉ ids) : Names h' v nms fn := ⟨N.own.fwd f hi, N.ok, N.len⟩
theorem Names.get {h : Hp} {v : EV} {nms : List ByteArray} {fn : List Nat} (N : Names h v nms fn) {k : Int} (hk : 0 ≤ k ∧ k < nms.length) : ∃ s q, isVar s ∧ indexAddr 1 v (eI k) = some q ∧ ∀ h', Names h' v nms fn → loadAt false 1 q h' = some (.p (.str s)) := by
  obtain ⟨j, rfl⟩ : ∃ j : Nat, k = j := ⟨k.toNat, by omega⟩
  have hj : j < nms.length := by omega
  have key : ∀ h', Names h' v nms fn → ∃ q, indexAddr 1 v (eI j) = some q ∧ loadAt false 1 q h' = some (.p (.str nms[j])) := fun h' N' => els_get1 N'.own.els (i := j) (e := .p (.str nms[j])) (by rw [List.getElem?_map, List.getElem?_eq_getElem hj]; rfl) .i64
  obtain ⟨q, q1, q2⟩ := key h N
  refine ⟨nms[j], q, N.ok _ (List.getElem_mem hj), q1, fun h' N' => ?_⟩
  obtain ⟨q', e1, e2⟩ := key h' N'
  rw [q1] at e1
  cases e1
  exact e2
theorem Names.any {h : Hp} {v : EV} {nms : List ByteArray} {fn : List Nat} (N : Names h v nms fn) (X : Hp) : lenOf 0 v X = some nms.length := by
  have := own_any N.own X
  simpa using this
theorem isVar_e : isVar (bs []) := .inl rfl

/-- Where codes stand. -/
structure CoAt (rb : Nat) (xs : List Int) (nv : EV) (nms : List ByteArray) (fn : List Nat) (h0 : Hp) (f : Fr) (h : Hp) (l : List Code) : Prop where
  g0 : f.get 0 = .ptr rb 0 0 0
  g1 : f.get 1 = nv
  row : ∃ i, RowAt h rb xs i
  own : ∃ fp, Own h 5 true (f.get 7) (l.map Code.cells) fp ∧ ∀ y ∈ fp, h0.objs.length ≤ y
  ok : ∀ c ∈ l, CodeOK c
  fw : Fwd [rb] h0 h

theorem co_round {rb : Nat} {xs : List Int} {nv : EV} {nms : List ByteArray} {fn : List Nat} {h0 h : Hp} {f : Fr} {l : List Code} {i k : Nat} {Q : Ex → Fr → Hp → Prop} (hx : xs.length ≤ 80) (N0 : Names h0 nv nms fn) (hfn : rb ∉ fn) (hl0 : h0.lim ≤ h0.objs.length) (hrb : rb < h0.objs.length) (I : CoAt rb xs nv nms fn h0 f h l) (g2 : f.get 2 = eI k) (g8 : f.get 8 = eI i) (hi : i ≤ k) (hk : k ≤ 2) (hlen : l.length ≤ 1 + 2 * i)
    (hQ : ∀ f' h', CoAt rb xs nv nms fn h0 f' h' l → Q (.exit 1) f' h')
    (hN : ∀ f' h' l', CoAt rb xs nv nms fn h0 f' h' l' → f'.get 2 = eI k → f'.get 8 = eI (i + 1 : Nat) → l'.length ≤ 1 + 2 * (i + 1) → i + 1 ≤ k → Q .normal f' h') : Run C0 [.code cBody] .normal (mask [0, 1, 2, 7, 8] f) h Q := by
  obtain ⟨g0, g1, ⟨r, R⟩, ⟨fp, O, nfp⟩, ok, F⟩ := I
  simp only [cBody]
  by_cases hik : i < k
  · have hik' : (i : Int) < (k : Int) := by omega
    simp [g0, g1, g2, g8, hik]
    refine PutA_of (next_ok R hx (by omega)) ?_
    rintro _ h1 ⟨n1, r1, rfl, z1, z2, R1, F1⟩
    have nfr : ∀ {fq : List Nat}, (∀ y ∈ fq, h0.objs.length ≤ y) → ∀ y ∈ fq, y ∉ [rb] := fun hq y hy z => by simp at z; have := hq y hy; omega
    have O1 := O.fwd F1 (nfr nfp)
    by_cases hn : n1 = 0
    · simp [hn]
      refine PutA_of (next_ok R1 hx (by omega)) ?_
      rintro _ h2 ⟨n2, r2, rfl, z3, z4, R2, F2⟩
      have O2 := O1.fwd F2 (nfr nfp)
      have FF2 := (F.trans F1).trans F2
      have l2 := FF2.limlen hl0
      have n2l := FF2.len
      have w1 : IntKind.i64.wrap ((i : Int) + 1) = (i : Int) + 1 := wrap64 (by omega) (by omega)
      by_cases hneg : n2 = 0
      · simp [hneg, ones]
        have F3 : Fwd [] h2 (h2.new (.cells ⟨0, 5, true, 0, [[eI 9, eI 0, .p (.str (bs [])), eI 0, eI 0]]⟩)) := (Fwd.refl _ _).new _
        refine PutA_of ((O2.fwd F3 (by simp)).append (x := .arr h2.objs.length 0 5 0 1 true) (ys := [[eI 9, eI 0, .p (.str (bs [])), eI 0, eI 0]]) (by simp [elsOf]) (by simp; omega) (by simp; omega)) ?_
        rintro v4 h4 ⟨fp4, O4, F4, G4⟩
        have n4 : ∀ y ∈ fp4, h0.objs.length ≤ y := fun y hy => by
          rcases G4 y hy with z | z
          · exact nfp y z
          · simp at z; omega
        have FF4 : Fwd [rb] h0 h4 := ((FF2.trans (F3.mono (by simp))).trans' F4 fun y hy => .inr (nfp y hy))
        simp [w1]
        refine hN _ _ (l ++ [⟨9, 0, bs [], 0, 0⟩]) ⟨by simp, by simp, ⟨r2, (R2.fwd F3 (by simp)).fwd F4 fun q => by have := nfp _ q; omega⟩, ⟨fp4, by simpa [Code.cells] using O4, n4⟩, fun c hc => ?_, FF4⟩ (by simp) (by simp) (by simp; omega) (by omega)
        rcases List.mem_append.1 hc with hc | hc
        · exact ok c hc
        · simp at hc; subst hc; exact ⟨isVar_e, by simp⟩
      · simp [hneg]
        refine PutA_of (next_ok R2 hx (by omega)) ?_
        rintro _ h3 ⟨n3, r3, rfl, z5, z6, R3, F3⟩
        have O3 := O2.fwd F3 (nfr nfp)
        have FF3 := FF2.trans F3
        have l3 := FF3.limlen hl0
        have n3l := FF3.len
        simp [ones]
        obtain ⟨X, eX⟩ : ∃ X, X = h3.new (.cells ⟨0, 5, true, 0, [[.p (.int .i64 6), .p (.int .i64 n3), .p (.str (bs [])), eI 0, eI 0]]⟩) := ⟨_, rfl⟩
        have FX : Fwd [] h3 X := by rw [eX]; exact (Fwd.refl _ _).new _
        have nX : X.objs.length = h3.objs.length + 1 := by rw [eX]; simp
        have x0 : X.arr h3.objs.length 0 = some ⟨0, 5, true, 0, [(⟨6, n3, bs [], 0, 0⟩ : Code).cells]⟩ := by rw [eX]; simp [Code.cells]
        rw [← eX]
        clear eX
        have RX := R3.fwd FX (by simp)
        have lX := FX.limlen l3
        refine PutA_of (next_ok RX hx (by omega)) ?_
        rintro _ h4 ⟨n4, r4, rfl, z7, z8, R4, F4⟩
        have FX4 : Fwd [rb] h3 h4 := (FX.mono (by simp)).trans F4
        have lim3 : h3.lim = h0.lim := FF3.lim
        have o9 : Own h4 5 true (.arr h3.objs.length 0 5 0 1 true) [(⟨6, n3, bs [], 0, 0⟩ : Code).cells] [h3.objs.length] := by
          have := Own.arr (h := h4) (id := h3.objs.length) (g := 0) (sz := 5) (ag := true) (off := 0) (len := 1) (frz := 0) (f := true) (E := [(⟨6, n3, bs [], 0, 0⟩ : Code).cells]) (F4.arr x0 (by simp; omega)) (by simp) (by simp) (by rw [FX4.lim]; omega)
          simpa using this
        simp
        refine Br_join (fun f' h' => f'.get 0 = .ptr rb 0 0 0 ∧ f'.get 1 = nv ∧ f'.get 2 = eI k ∧ f'.get 7 = f.get 7 ∧ f'.get 8 = eI i ∧ ∃ c f9, Own h' 5 true (f'.get 9) [c.cells] f9 ∧ (∀ y ∈ f9, h3.objs.length ≤ y) ∧ CodeOK c ∧ (∃ r, RowAt h' rb xs r) ∧ Fwd [rb] h3 h') ?_ ?_
        · have N4 := N0.fwd (FF3.trans FX4) (fun y hy z => by simp at z; subst z; exact hfn hy)
          have l4 := FX4.limlen l3
          by_cases h4z : n4 = 0
          · simp [h4z, N4.any]
            refine PutA_of (next_ok R4 hx (by have := N4.len; omega)) ?_
            rintro _ h5 ⟨n5, r5, rfl, z9, z10, R5, F5⟩
            have N5 := N4.fwd F5 (fun y hy z => by simp at z; subst z; exact hfn hy)
            obtain ⟨s, q, hv, q1, q2⟩ := N5.get ⟨z9, z10⟩
            simp [q1, q2 _ N5]
            refine PutC_of (next_ok R5 hx (by omega)) ?_
            rintro _ h6 ⟨n6, r6, rfl, z11, z12, R6, F6⟩
            have N6 := N5.fwd F6 (fun y hy z => by simp at z; subst z; exact hfn hy)
            have q3 := q2 _ N6
            have l6 := ((FX4.trans F5).trans F6).limlen l3
            have eqs : ∀ x : PD, EV.eqb (.p x) (.p x) = true := fun x => by simp [EV.eqb]
            simp [q3, eqs, ones]
            have F7 : Fwd [] h6 (h6.new (.cells ⟨0, 5, true, 0, [[eI 7, eI 0, .p (.str s), eI n6, eI 0]]⟩)) := (Fwd.refl _ _).new _
            have FF := (((FX4.trans F5).trans F6).trans (F7.mono (by simp)))
            refine ⟨⟨7, 0, s, n6, 0⟩, [h6.objs.length], ?_, by simp; have := ((FX4.trans F5).trans F6).len; omega, ⟨hv, by simp⟩, ⟨r6, R6.fwd F7 (by simp)⟩, FF⟩
            have := Own.arr (h := h6.new (.cells ⟨0, 5, true, 0, [[eI 7, eI 0, .p (.str s), eI n6, eI 0]]⟩)) (id := h6.objs.length) (g := 0) (sz := 5) (ag := true) (off := 0) (len := 1) (frz := 0) (f := true) (E := [(⟨7, 0, s, n6, 0⟩ : Code).cells]) (by simp [Code.cells]) (by simp) (by simp) (by simpa using l6)
            simpa using this
          · simp [h4z]
            exact ⟨⟨6, n3, bs [], 0, 0⟩, [h3.objs.length], o9, by simp, ⟨isVar_e, by simp; omega⟩, ⟨r4, R4⟩, FX4⟩
        rintro f5 h5 ⟨k0, k1, k2, k7, k8, c, f9, O9, n9, cok, ⟨r5, R5⟩, F5⟩
        have l5 := F5.limlen l3
        have n5l := F5.len
        have O5 := O3.fwd F5 (nfr nfp)
        simp [k0]
        refine PutA_of (next_ok R5 hx (by omega)) ?_
        rintro _ h6 ⟨n6, r6, rfl, z9, z10, R6, F6⟩
        have F56 := F5.trans F6
        have l6 := F56.limlen l3
        have n6l := F6.len
        have w2 : IntKind.i64.wrap (1 + n6) = 1 + n6 := wrap64 (by omega) (by omega)
        simp [k0, w2, ones, l6]
        obtain ⟨Y, eY⟩ : ∃ Y, Y = (h6.new (.cells ⟨0, 5, true, 0, [[eI 0, eI 0, .p (.str (bs [])), eI 0, eI 0]]⟩)).setArr h6.objs.length ⟨0, 5, true, 0, [(⟨1 + n6, 0, bs [], 0, 0⟩ : Code).cells]⟩ := ⟨_, rfl⟩
        have FY : Fwd [] h6 Y := by rw [eY]; exact ((Fwd.refl _ _).new _).set _ (.inr (by simp))
        have y0 : Y.arr h6.objs.length 0 = some ⟨0, 5, true, 0, [(⟨1 + n6, 0, bs [], 0, 0⟩ : Code).cells]⟩ := by rw [eY]; simp [Hp.arr_set]
        have nY : Y.objs.length = h6.objs.length + 1 := by rw [eY]; simp
        simp only [Code.cells] at eY
        rw [← eY]
        clear eY
        have RY := R6.fwd FY (by simp)
        refine PutA_of (next_ok RY hx (by omega)) ?_
        rintro _ h7 ⟨n7, r7, rfl, z11, z12, R7, F7⟩
        have n7l := F7.len
        have F57 := (F56.trans (FY.mono (by simp))).trans F7
        have l7 := F57.limlen l3
        have y7 := F7.arr y0 (by simp; omega)
        have ly7 := arr_lt y7
        have nf9 : ∀ y ∈ f9, h0.objs.length ≤ y := fun y hy => by have := n9 y hy; omega
        have OL := ((O5.fwd F6 (nfr nfp)).fwd FY (by simp)).fwd F7 (nfr nfp)
        have OR := ((O9.fwd F6 (nfr nf9)).fwd FY (by simp)).fwd F7 (nfr nf9)
        simp only [Code.cells] at y7
        have fpl := O3.lt
        have d10 : h6.objs.length ∉ fp := fun q => by have := fpl _ q; omega
        have d11 : h6.objs.length ∉ f9 := fun q => by have := O9.lt _ q; omega
        have eqv : EV.eqb (.agg [.p (.int .i64 (1 + n6)), eI 0, .p (.str (bs [])), eI 0, eI 0]) (.agg [.p (.int .i64 (1 + n6)), eI 0, .p (.str (bs [])), eI 0, eI 0]) = true := by simp [EV.eqb, EV.eqbs, PD.eqb]
        have okn : CodeOK ⟨1 + n6, 0, bs [], 0, 0⟩ := ⟨isVar_e, by simp⟩
        have fin : ∀ f9' h9 l' fpz, f9'.get 0 = .ptr rb 0 0 0 → f9'.get 1 = nv → f9'.get 2 = eI k → f9'.get 8 = eI (i + 1 : Nat) → Own h9 5 true (f9'.get 7) (List.map Code.cells l') fpz → (∀ y ∈ fpz, h0.objs.length ≤ y) → l'.length = l.length + 2 → (∀ c ∈ l', CodeOK c) → (∃ r, RowAt h9 rb xs r) → Fwd [rb] h0 h9 → Q .normal f9' h9 := fun f9' h9 l' fpz a0 a1 a2 a8 ao an al ac ar af => hN _ _ l' ⟨a0, a1, ar, ⟨fpz, ao, an⟩, ac, af⟩ a2 a8 (by omega) (by omega)
        by_cases h7z : n7 = 0
        · simp [h7z, k7, y7, nl ly7, ones]
          have F8 : Fwd [] h7 (h7.new (.cells ⟨0, 5, true, 0, [[.p (.int .i64 (1 + n6)), eI 0, .p (.str (bs [])), eI 0, eI 0]]⟩)) := (Fwd.refl _ _).new _
          refine PutC_of ((OL.fwd F8 (by simp)).append (x := f5.get 9) (ys := [c.cells]) (OR.fwd F8 (by simp)).els (by simp; omega) (by simp; omega)) ?_
          rintro v8 h8 ⟨f8, O8, F9, G8⟩
          have F89 : Fwd fp h7 h8 := (F8.mono (by simp)).trans F9
          have y8 := F89.arr y7 d10
          have ly8 := arr_lt y8
          have x8 : h8.arr h7.objs.length 0 = some ⟨0, 5, true, 0, [[.p (.int .i64 (1 + n6)), eI 0, .p (.str (bs [])), eI 0, eI 0]]⟩ := F9.arr (by simp) (fun q => by have := OL.lt _ q; omega)
          simp [y8, nl ly8, eqv]
          refine PutA_of (O8.append (x := .arr h7.objs.length 0 5 0 1 true) (ys := [[.p (.int .i64 (1 + n6)), eI 0, .p (.str (bs [])), eI 0, eI 0]]) (by simp [elsOf, x8]) (by simp; omega) (by have := F89.lim; have := F89.len; omega)) ?_
          rintro v9 h9 ⟨fz, Oz, Fz, Gz⟩
          have n8 : ∀ y ∈ f8, h0.objs.length ≤ y := fun y hy => by
            rcases G8 y hy with z | z
            · exact nfp y z
            · simp at z; omega
          have nz : ∀ y ∈ fz, h0.objs.length ≤ y := fun y hy => by
            rcases Gz y hy with z | z
            · exact n8 y z
            · have := F89.len; omega
          simp [w1, k0, k1, k2, k8]
          refine fin _ h9 (l ++ [c] ++ [⟨1 + n6, 0, bs [], 0, 0⟩]) fz (by simp [k0]) (by simp [k1]) (by simp [k2]) (by simp) (by simpa [Code.cells] using Oz) nz (by simp) (fun z hz => ?_) ⟨r7, (R7.fwd F89 fun q => by have := nfp _ q; omega).fwd Fz fun q => by have := n8 _ q; omega⟩ (((FF3.trans F57).trans' F89 fun y hy => .inr (nfp y hy)).trans' Fz fun y hy => .inr (n8 y hy))
          simp at hz
          rcases hz with hz | rfl | rfl
          · exact ok z hz
          · exact cok
          · exact okn
        · simp [h7z, k7, y7, nl ly7, ones]
          have F8 : Fwd [] h7 (h7.new (.cells ⟨0, 5, true, 0, [[eI (1 + n6), eI 0, .p (.str (bs [])), eI 0, eI 0]]⟩)) := (Fwd.refl _ _).new _
          refine PutC_of ((OR.fwd F8 (by simp)).append (x := f.get 7) (ys := l.map Code.cells) (OL.fwd F8 (by simp)).els (by simp; omega) (by simp; omega)) ?_
          rintro v8 h8 ⟨f8, O8, F9, G8⟩
          have F89 : Fwd f9 h7 h8 := (F8.mono (by simp)).trans F9
          have y8 := F89.arr y7 d11
          have ly8 := arr_lt y8
          have x8 : h8.arr h7.objs.length 0 = some ⟨0, 5, true, 0, [[eI (1 + n6), eI 0, .p (.str (bs [])), eI 0, eI 0]]⟩ := F9.arr (by simp) (fun q => by have := OR.lt _ q; omega)
          simp [y8, nl ly8, eqv]
          refine PutA_of (O8.append (x := .arr h7.objs.length 0 5 0 1 true) (ys := [[eI (1 + n6), eI 0, .p (.str (bs [])), eI 0, eI 0]]) (by simp [elsOf, x8]) (by simp; omega) (by have := F89.lim; have := F89.len; omega)) ?_
          rintro v9 h9 ⟨fz, Oz, Fz, Gz⟩
          have n8 : ∀ y ∈ f8, h0.objs.length ≤ y := fun y hy => by
            rcases G8 y hy with z | z
            · exact nf9 y z
            · simp at z; omega
          have nz : ∀ y ∈ fz, h0.objs.length ≤ y := fun y hy => by
            rcases Gz y hy with z | z
            · exact n8 y z
            · have := F89.len; omega
          simp [w1, k0, k1, k2, k8]
          refine fin _ h9 ([c] ++ l ++ [⟨1 + n6, 0, bs [], 0, 0⟩]) fz (by simp [k0]) (by simp [k1]) (by simp [k2]) (by simp) (by simpa [Code.cells] using Oz) nz (by simp) (fun z hz => ?_) ⟨r7, (R7.fwd F89 fun q => by have := nf9 _ q; omega).fwd Fz fun q => by have := n8 _ q; omega⟩ (((FF3.trans F57).trans' F89 fun y hy => .inr (nf9 y hy)).trans' Fz fun y hy => .inr (n8 y hy))
          simp at hz
          rcases hz with rfl | hz | rfl
          · exact cok
          · exact ok z hz
          · exact okn
    · simp [hn]
      exact hQ _ _ ⟨by simp, by simp, ⟨r1, R1⟩, ⟨fp, by simpa using O1, nfp⟩, ok, F.trans F1⟩
  · simp [g0, g1, g2, g8, hik]
    exact hQ _ _ ⟨by simp, by simp, ⟨r, R⟩, ⟨fp, by simpa using O, nfp⟩, ok, F⟩

theorem codes_all2 {P : Nat → Prop} {h : Hp} {n : Nat} : ∀ l : List Code, All2 (ElShows (Shows P h n) true) (l.map Code.cells) (l.map Code.pd)
  | [] => trivial
  | c :: l => ⟨⟨_, rfl, .plain n, .plain n, .plain n, .plain n, .plain n, trivial⟩, codes_all2 l⟩
/-- What is shared is plain, or all there is. -/
theorem share_any {P : Nat → Prop} {lim : Nat} {v : EV} {ps : List PD} {os : List Obj} (H : Shows P ⟨os, lim⟩ 8 v (.list ps)) : ∃ w os', shareV lim v os = some (w, os') ∧ (w = .p (.list ps) ∨ w = .full ps) ∧ SimP P os os' := by
  obtain ⟨os', h, s⟩ := shareC_showsP H
  have H' := H
  unfold Shows at H'
  rcases H' with (rfl | ⟨xs, rfl, e⟩) | ⟨id, g, off, len, f, a, qs, rfl, -⟩
  · exact ⟨_, os, by simp [shareV], .inl rfl, .refl _ _⟩
  · cases e
    exact ⟨_, os, by simp [shareV], .inl rfl, .refl _ _⟩
  · cases f with
    | true => exact ⟨_, os', by simp only [shareV, h, Option.map_some, fullV], .inr rfl, s⟩
    | false => exact ⟨_, os', by simp only [shareV, h, Option.map_some, fullV], .inl rfl, s⟩

theorem codes_ok {rb i : Nat} {xs : List Int} {nv : EV} {nms : List ByteArray} {fn : List Nat} {h : Hp} {k : Nat} (R : RowAt h rb xs i) (hx : xs.length ≤ 80) (N : Names h nv nms fn) (hfn : rb ∉ fn) (hl : h.lim ≤ h.objs.length) (hk : k ≤ 2) :
    WA (C0 n_Codes [.ptr rb 0 0 0, nv, eI k] h) fun v h' => ∃ l i', (v = .p (.list (l.map Code.pd)) ∨ v = .full (l.map Code.pd)) ∧ CodesOK l ∧ RowAt h' rb xs i' ∧ Fwd [rb] h h' := by
  refine call_WS noExt_mono (f := n_Codes) rfl rfl ?_
  have hrb := arr_lt R.arr
  simp
  obtain ⟨X, eX⟩ : ∃ X, X = (h.new (.cells ⟨0, 5, true, 0, []⟩)).new (.cells ⟨0, 5, true, 0, []⟩) := ⟨_, rfl⟩
  have FX : Fwd [] h X := by rw [eX]; exact ((Fwd.refl _ _).new _).new _
  rw [← eX]
  clear eX
  have lX := FX.limlen hl
  have nX := FX.len
  refine PutA_of (next_ok (R.fwd FX (by simp)) hx (by omega)) ?_
  rintro _ h1 ⟨n1, r1, rfl, z1, z2, R1, F1⟩
  have FF1 : Fwd [rb] h h1 := (FX.mono (by simp)).trans F1
  have l1 := FF1.limlen hl
  have n1l := FF1.len
  have nfr : ∀ y ∈ fn, y ∉ [rb] := fun y hy z => by simp at z; subst z; exact hfn hy
  have N1 := N.fwd FF1 nfr
  have one : ∀ (hh : Hp) (id : Nat) (c : Code), hh.arr id 0 = some ⟨0, 5, true, 0, [c.cells]⟩ → hh.lim ≤ id → Own hh 5 true (.arr id 0 5 0 1 true) [c.cells] [id] := fun hh id c e1 e2 => by
    have := Own.arr (h := hh) (id := id) (g := 0) (sz := 5) (ag := true) (off := 0) (len := 1) (frz := 0) (f := true) (E := [c.cells]) e1 (by simp) (by simp) e2
    simpa using this
  simp
  refine Br_join (fun f' h' => f'.get 0 = .ptr rb 0 0 0 ∧ f'.get 1 = nv ∧ f'.get 2 = eI k ∧ ∃ c f7, Own h' 5 true (f'.get 7) [c.cells] f7 ∧ (∀ y ∈ f7, h.objs.length ≤ y) ∧ CodeOK c ∧ (∃ r, RowAt h' rb xs r) ∧ Fwd [rb] h h') ?_ ?_
  · by_cases hz : n1 = 0
    · simp [hz]
      refine PutA_of (next_ok R1 hx (by omega)) ?_
      rintro _ h2 ⟨n2, r2, rfl, z3, z4, R2, F2⟩
      have FF2 := FF1.trans F2
      have l2 := FF2.limlen hl
      have n2l := FF2.len
      simp [ones]
      have F3 : Fwd [] h2 (h2.new (.cells ⟨0, 5, true, 0, [[.p (.int .i64 6), .p (.int .i64 n2), .p (.str (bs [])), eI 0, eI 0]]⟩)) := (Fwd.refl _ _).new _
      exact ⟨⟨6, n2, bs [], 0, 0⟩, [h2.objs.length], one _ _ _ (by simp [Code.cells]) (by simpa using l2), by simpa using n2l, ⟨isVar_e, by simp; omega⟩, ⟨r2, R2.fwd F3 (by simp)⟩, FF2.trans (F3.mono (by simp))⟩
    · simp [hz, N1.any]
      refine PutA_of (next_ok R1 hx (by have := N1.len; omega)) ?_
      rintro _ h5 ⟨n5, r5, rfl, z9, z10, R5, F5⟩
      have N5 := N1.fwd F5 nfr
      obtain ⟨s, q, hv, q1, q2⟩ := N5.get ⟨z9, z10⟩
      simp [q1, q2 _ N5]
      refine PutC_of (next_ok R5 hx (by omega)) ?_
      rintro _ h6 ⟨n6, r6, rfl, z11, z12, R6, F6⟩
      have N6 := N5.fwd F6 nfr
      have q3 := q2 _ N6
      have FF6 := (FF1.trans F5).trans F6
      have l6 := FF6.limlen hl
      have n6l := FF6.len
      have eqs : ∀ x : PD, EV.eqb (.p x) (.p x) = true := fun x => by simp [EV.eqb]
      simp [q3, eqs, ones]
      have F7 : Fwd [] h6 (h6.new (.cells ⟨0, 5, true, 0, [[.p (.int .i64 7), eI 0, .p (.str s), .p (.int .i64 n6), eI 0]]⟩)) := (Fwd.refl _ _).new _
      exact ⟨⟨7, 0, s, n6, 0⟩, [h6.objs.length], one _ _ _ (by simp [Code.cells]) (by simpa using l6), by simpa using n6l, ⟨hv, by simp⟩, ⟨r6, R6.fwd F7 (by simp)⟩, FF6.trans (F7.mono (by simp))⟩
  rintro f2 h2 ⟨g0, g1, g2, c, f7, O7, nf7, cok, ⟨r2, R2⟩, F2⟩
  simp
  refine Run_loop (fun q f h' => ∃ (i : Nat) (l : List Code), CoAt rb xs nv nms fn h f h' l ∧ f.get 2 = eI k ∧ f.get 8 = eI i ∧ i ≤ k ∧ l.length ≤ 1 + 2 * i ∧ q = k - i) (n := k) ⟨0, [c], ⟨by simp [g0], by simp [g1], ⟨r2, R2⟩, ⟨f7, by simpa using O7, nf7⟩, by simpa using cok, F2⟩, by simp [g2], by simp, by omega, by simp, rfl⟩ ?_
  rintro q f3 h3 ⟨i3, l3, I, k2, k8, ile, hlen, hq⟩
  refine co_round hx N hfn hl hrb I k2 k8 ile hk hlen (fun f' h' I' => ?_) (fun f' h' l' I' e2 e8 hl' hle => ⟨k - (i3 + 1), by omega, i3 + 1, l', I', e2, e8, hle, hl', rfl⟩)
  obtain ⟨a0, a1, ⟨r4, R4⟩, ⟨f4, O4, nf4⟩, ok4, F4⟩ := I'
  obtain ⟨w, os', e, hw, S⟩ := share_any (os := h'.objs) (lim := h'.lim) (own_shows (P := fun y => h.objs.length ≤ y) (n := 7) O4 nf4 (codes_all2 l3))
  obtain ⟨ids, hids, Fs⟩ := S.fwd
  have lim4 : h'.lim = h.lim := F4.lim
  simp [EndsS, shareVs, e]
  have Fs' : Fwd ids h' (({ objs := os', lim := h'.lim } : Hp).back h.lim) := by rw [Hp.back_of (h := { objs := os', lim := h'.lim }) lim4]; exact Fs
  refine ⟨[w], os', ⟨rfl, rfl⟩, l3, hw, ⟨ok4, by omega⟩, ⟨r4, R4.fwd Fs' fun z => by have := hids _ z; omega⟩, F4.trans' Fs' fun y hy => .inr (hids y hy)⟩
end Dk.C
