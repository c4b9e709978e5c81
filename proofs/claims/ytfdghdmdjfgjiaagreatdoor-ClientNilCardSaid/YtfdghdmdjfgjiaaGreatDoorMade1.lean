/- Queries by plain numbers: an element. -/
import Derived.Test.YtfdghdmdjfgjiaaGreatDoorMade0
set_option linter.unusedVariables false
set_option linter.unusedSimpArgs false
set_option linter.unusedSectionVars false
namespace Dk.C
open Go Dk

def mEl : DC := .seq (.seq (.ops [S 35 (.mv (.t 9)),
     S 36 (.mv (.t 5)),
     S 37 (.bin .lss .none (.t 35) (.t 36))])
   (.cond (.t 37)
    (.skip)
    (.exit 0)))
   (.seq (.block 1 (.seq (.ops [S 40 (.mv (.t 3)),
      S 42 (.mv (.t 9)),
      S 43 (.ixp 4 1 (.t 6) (.t 42)),
      S 44 (.ld false 1 (.t 43)),
      S 10 (.new true [(eI 0), (.p (.str (bs []))), (eB false), (eB false)]),
      ⟨(some 41), .call n_Next [(.t 40), (xI 3)], none, [(44, .ld false 1 (.t 43), none)]⟩,
      S 45 (.build [(eI 0), (.p (.str (bs []))), (eB false), (eB false)] [(0, 1, (.t 41)), (1, 1, (.t 44))]),
      E (.st 4 (.t 10) (.t 45))])
    (.seq (.ops [S 46 (.mv (.t 3)),
      S 47 (.call n_Next [(.t 46), (xI 5)]),
      S 11 (.mv (.t 47))])
    (.seq (.seq (.ops [S 48 (.mv (.t 11)),
      S 49 (.bin .eql .none (.t 48) (xI 0)),
      S 50 (.mv (.t 49)),
      ⟨(some 51), .mv (.t 9), (some (50, true)), []⟩,
      ⟨(some 52), .bin .gtr .none (.t 51) (xI 0), (some (50, true)), []⟩,
      S 53 (.pick (.t 50) (.t 52) (xB false)),
      S 54 (.mv (.t 53)),
      ⟨(some 55), .mv (.t 9), (some (54, true)), []⟩,
      ⟨(some 56), .mv (.t 5), (some (54, true)), []⟩,
      ⟨(some 57), .bin .sub .none (.t 56) (xI 1), (some (54, true)), []⟩,
      ⟨(some 58), .bin .lss .none (.t 55) (.t 57), (some (54, true)), []⟩,
      S 59 (.pick (.t 54) (.t 58) (xB false))])
    (.cond (.t 59)
     (.seq (.ops [S 60 (.fld 3 (.t 10)),
       E (.st 1 (.t 60) (xB true))])
     (.ops [S 61 (.mv (.t 9)),
       S 8 (.mv (.t 61))]))
     (.seq (.ops [S 62 (.mv (.t 11)),
       S 63 (.bin .eql .none (.t 62) (xI 1)),
       S 64 (.fld 2 (.t 10)),
       E (.st 1 (.t 64) (.t 63))])
     (.ops [S 65 (.mv (.t 7)),
       S 66 (.mv (.t 9)),
       S 67 (.ixp 4 1 (.t 6) (.t 66)),
       S 68 (.ld false 1 (.t 67)),
       S 69 (.lit 1 false [[(.p (.str (bs [])))]] [(0, (.t 68))]),
       S 70 (.app 1 false 16 (.t 65) (.t 69)),
       S 7 (.mv (.t 70))]))))
    (.ops [S 71 (.fld 0 (.t 4)),
      S 72 (.ld false 1 (.t 71)),
      S 73 (.ld true 4 (.t 10)),
      S 74 (.lit 4 true [[(eI 0), (.p (.str (bs []))), (eB false), (eB false)]] [(0, (.t 73))]),
      S 75 (.app 4 true 32 (.t 72) (.t 74)),
      S 76 (.fld 0 (.t 4)),
      E (.st 1 (.t 76) (.t 75))])))))
   (.ops [S 38 (.mv (.t 9)),
     S 39 (.bin .add .none (.t 38) (xI 1)),
     S 9 (.mv (.t 39))]))
theorem own_cells {h : Hp} {sz : Nat} {ag : Bool} {v : EV} {els : List (List EV)} {fp : List Nat} (O : Own h sz ag v els fp) : v.cells = [v] ∧ EV.one v = true := by
  cases O with
  | nil => exact ⟨rfl, rfl⟩
  | arr _ _ _ _ => exact ⟨rfl, rfl⟩
/-- What a frame of Made holds. -/
structure MdF (rz rb qb ab n : Nat) (tv : EV) (nt : Int) (f : Fr) : Prop where
  g2 : f.get 2 = .ptr rz 0 0 0
  g3 : f.get 3 = .ptr rb 0 0 0
  g4 : f.get 4 = .ptr qb 0 0 0
  g5 : f.get 5 = eI n
  g6 : f.get 6 = .ptr ab 0 0 0
  g7 : f.get 7 = tv
  g8 : f.get 8 = eI nt
variable {xs : List Int} {rz rb qb ab n : Nat} {w : Int} {kk : Bool} {h h' : Hp} {es : List Elem} {cs : List Cc} {tv ev cv : EV} {ths : List ByteArray} {fe fc ft : List Nat}
structure MdJ (xs : List Int) (rz rb qb ab : Nat) (w : Int) (kk : Bool) (n i B : Nat) (es : List Elem) (cs : List Cc) (ev cv : EV) (fe fc : List Nat) (f : Fr) (h : Hp) : Prop where
  ex : ∃ tv ths ft nt e, MdAt xs rz rb qb ab w kk h es cs tv ths ev cv fe fc ft ∧ MdF rz rb qb ab n tv nt f ∧ f.get 9 = eI i ∧ f.get 10 = .ptr B 0 0 0 ∧ h.arr B 0 = some ⟨0, 4, true, 0, [Elem.cells e]⟩ ∧ isVar e.v ∧ 0 < ths.length ∧ ths.length ≤ i + 1 ∧ -1 ≤ nt ∧ nt < i + 1 ∧ B ∉ fe
theorem els_round {f : Fr} {i : Nat} {nt : Int} {Q : Ex → Fr → Hp → Prop} (hx : xs.length ≤ 80) (M : MdAt xs rz rb qb ab w kk h es cs tv ths ev cv fe fc ft) (G : MdF rz rb qb ab n tv nt f) (g9 : f.get 9 = eI i) (hi : i ≤ n) (hn : n ≤ 4) (hes : es.length = i) (hth : ths.length ≤ i ∧ (0 < i → 0 < ths.length)) (hnt : -1 ≤ nt ∧ nt < i)
    (hQ : i = n → ∀ f', MdF rz rb qb ab n tv nt f' → Q (.exit 0) f' h)
    (hN : ∀ f' h' es' tv' ths' ev' fe' ft' nt', MdAt xs rz rb qb ab w kk h' es' cs tv' ths' ev' cv fe' fc ft' → MdF rz rb qb ab n tv' nt' f' → f'.get 9 = eI (i + 1 : Nat) → i < n → es'.length = i + 1 → 0 < ths'.length → ths'.length ≤ i + 1 → -1 ≤ nt' → nt' < i + 1 → Q .normal f' h') :
    Run C0 [.code mEl] .normal (mask [2, 3, 4, 5, 6, 7, 8, 9] f) h Q := by
  obtain ⟨g2, g3, g4, g5, g6, g7, g8⟩ := G
  simp only [mEl]
  by_cases hin : i < n
  · have hin' : (i : Int) < (n : Int) := by omega
    have ml := M.lt
    obtain ⟨s, sv, ix, ld⟩ := all_get M (k := i) (by omega)
    obtain ⟨r, R⟩ := M.row
    simp [g2, g3, g4, g5, g6, g7, g8, g9, hin, ix, ld h rfl]
    obtain ⟨h1, e1⟩ : ∃ h1, h1 = h.new (.cells ⟨0, 4, true, 0, [[eI 0, .p (.str (bs [])), eB false, eB false]]⟩) := ⟨_, rfl⟩
    have F1 : Fwd [] h h1 := by rw [e1]; exact (Fwd.refl _ _).new _
    have n1 : h1.objs.length = h.objs.length + 1 := by rw [e1]; simp
    have x1 : h1.arr h.objs.length 0 = some ⟨0, 4, true, 0, [[eI 0, .p (.str (bs [])), eB false, eB false]]⟩ := by rw [e1]; simp
    rw [← e1]
    clear e1
    have M1 := M.fwd F1
    obtain ⟨r, R1⟩ := M1.row
    have ndb' : ∀ y, y = rb → y ∉ [h.objs.length] := fun y e z => by simp at z; omega
    have ndb : ∀ y, (h.objs.length = y) → y ∉ [rb] := fun y e z => by simp at z; omega
    refine PutC_of (next_ok R1 hx (by omega)) ?_
    rintro _ h2 ⟨n2, r2, rfl, z1, z2, R2, F2⟩
    have M2 := M1.next R2 F2
    have x2 := F2.arr x1 (ndb _ rfl)
    have ld2 := ld h2 (by rw [M2.all, M.all])
    have n2l := F2.len
    have ml2 := M2.lt
    have lx2 := arr_lt x2
    have eqs : ∀ x : PD, EV.eqb (.p x) (.p x) = true := fun x => by simp [EV.eqb]
    have lm2 : h2.lim ≤ h.objs.length := by have := M.lim.2; rw [F2.lim, F1.lim]; exact this
    simp [ld2, eqs, g3, ones, x2, nl lx2, lm2]
    obtain ⟨h3, e3⟩ : ∃ h3, h3 = h2.setArr h.objs.length ⟨0, 4, true, 0, [(⟨n2, s, false, false⟩ : Elem).cells]⟩ := ⟨_, rfl⟩
    have F3 : Fwd [h.objs.length] h2 h3 := by rw [e3]; exact (Fwd.refl _ _).set _ (by simp)
    have lx3 : h3.objs.length = h2.objs.length := by rw [e3]; simp
    have x3 : h3.arr h.objs.length 0 = some ⟨0, 4, true, 0, [(⟨n2, s, false, false⟩ : Elem).cells]⟩ := by rw [e3]; simp [Hp.arr_set]; omega
    simp only [Elem.cells] at e3 x3
    rw [← e3]
    clear e3
    have FF3 : Fwd [rb] h h3 := ((F1.mono (by simp)).trans F2).trans' F3 (by simp)
    have R3 := R2.fwd F3 (by simp; omega)
    refine PutA_of (next_ok R3 hx (by omega)) ?_
    rintro _ h4 ⟨n4, r4, rfl, z3, z4, R4, F4⟩
    have FF4 := FF3.trans F4
    have x4 := F4.arr x3 (ndb _ rfl)
    have M4 := M.next R4 FF4
    have lx4 := arr_lt x4
    have lm4 : h4.lim ≤ h.objs.length := by have := M.lim.2; rw [FF4.lim]; exact this
    have w2 : IntKind.i64.wrap ((n : Int) - 1) = (n : Int) - 1 := wrap64 (by omega) (by omega)
    have w1 : IntKind.i64.wrap ((i : Int) + 1) = (i : Int) + 1 := wrap64 (by omega) (by omega)
    simp
    refine Gd_join1 (fun f5 h5 => h5 = h4 ∧ ∃ b, f5.get 59 = eB b ∧ (b = true → 0 < i) ∧ MdF rz rb qb ab n tv nt f5 ∧ f5.get 9 = eI i ∧ f5.get 10 = .ptr h.objs.length 0 0 0 ∧ f5.get 11 = eI n4) ?_ ?_
    · by_cases c1 : n4 = 0
      · by_cases c2 : 0 < i
        · have c2' : (0 : Int) < i := by omega
          simp [c1, c2, c2', w2]
          refine ⟨by omega, ?_⟩
          exact ⟨by simp, by simp, by simp, by simp, by simp, by simp, by simp⟩
        · have c2' : ¬ (0 : Int) < i := by omega
          simp [c1, c2, c2', w2]
          exact ⟨by simp, by simp, by simp, by simp, by simp, by simp, by simp⟩
      · simp [c1]
        exact ⟨by simp, by simp, by simp, by simp, by simp, by simp, by simp⟩
    rintro f5 h5 ⟨eh, b, k59, hb, G5, k9, k10, k11⟩
    have eh := eh.symm
    subst eh
    have G5' := G5
    obtain ⟨k2, k3, k4, k5, k6, k7, k8⟩ := G5'
    simp [k59]
    have dfe : ∀ y, h.objs.length ≤ y → y ∉ fe := fun y hy q => by have := M.eo.lt y q; omega
    refine Br_join (MdJ xs rz rb qb ab w kk n i h.objs.length es cs ev cv fe fc) ?_ ?_
    · cases b with
      | true =>
        simp [k9, k10, x4, nl lx4, ones, lm4]
        refine ⟨tv, ths, ft, i, ⟨n2, s, false, true⟩, ?_, ⟨by simp [k2], by simp [k3], by simp [k4], by simp [k5], by simp [k6], by simp [k7], by simp⟩, by simp [k9], by simp [k10], by simp [Hp.arr_set, Elem.cells]; omega, sv, hth.2 (hb rfl), by omega, by omega, by omega, dfe _ (by omega)⟩
        exact M.next (R4.fwd ((Fwd.refl [h.objs.length] _).set _ (by simp)) (ndb' _ rfl)) (FF4.trans' ((Fwd.refl [h.objs.length] _).set _ (by simp)) (by simp))
      | false =>
        simp [k11, k10, x4, nl lx4, ones, lm4]
        obtain ⟨h6, e6⟩ : ∃ h6, h6 = h4.setArr h.objs.length ⟨0, 4, true, 0, [(⟨n2, s, decide (n4 = 1), false⟩ : Elem).cells]⟩ := ⟨_, rfl⟩
        have F6 : Fwd [h.objs.length] h4 h6 := by rw [e6]; exact (Fwd.refl _ _).set _ (by simp)
        have x6 : h6.arr h.objs.length 0 = some ⟨0, 4, true, 0, [(⟨n2, s, decide (n4 = 1), false⟩ : Elem).cells]⟩ := by rw [e6]; simp [Hp.arr_set]; omega
        simp only [Elem.cells] at e6
        rw [← e6]
        clear e6
        have FF6 := FF4.trans' F6 (by simp)
        have M6 := M.next (R4.fwd F6 (ndb' _ rfl)) FF6
        have ld6 := ld h6 (by rw [M6.all, M.all])
        have l6 := FF6.limlen M.lim.2
        simp [k7, k9, k6, ix, ld6, ones]
        have F7 : Fwd [] h6 (h6.new (.cells ⟨0, 1, false, 0, [[.p (.str s)]]⟩)) := (Fwd.refl _ _).new _
        have M7 := M6.fwd F7
        refine PutA_of (M7.th.append (x := .arr h6.objs.length 0 1 0 1 true) (ys := [[.p (.str s)]]) (by simp [elsOf]) (by simp [strs]; omega) M7.lim.2) ?_
        rintro v8 h8 ⟨ft8, O8, F8, G8⟩
        have M8 := M7.addT (s := s) (by simpa [strs] using O8) sv F8 G8
        simp
        refine ⟨v8, ths ++ [s], ft8, nt, ⟨n2, s, decide (n4 = 1), false⟩, M8, ⟨by simp [k2], by simp [k3], by simp [k4], by simp [k5], by simp [k6], by simp, by simp [k8]⟩, by simp [k9], by simp [k10], F8.arr (F7.arr x6 (by simp)) fun z => ?_, sv, by simp, by simp; omega, hnt.1, by omega, dfe _ (by omega)⟩
        have := M.th.lt _ z
        omega
    rintro f5 h5 ⟨tv5, ths5, ft5, nt5, e5, M5, G5, k9, k10, x5, v5, t1, t2, t3, t4, t5⟩
    obtain ⟨k2, k3, k4, k5, k6, k7, k8⟩ := G5
    have lx5 := arr_lt x5
    simp only [Elem.cells] at x5
    simp [k4, k10, M5.q, nl M5.lt.2.1, x5, nl lx5, ones]
    have F7 : Fwd [] h5 (h5.new (.cells ⟨0, 4, true, 0, [[eI e5.ty, .p (.str e5.v), eB e5.plus, eB e5.not]]⟩)) := (Fwd.refl _ _).new _
    have M7 := M5.fwd F7
    refine PutA_of (Own.add M7.eo (x := .arr h5.objs.length 0 4 0 1 true) (ys := [[eI e5.ty, .p (.str e5.v), eB e5.plus, eB e5.not]]) (by simp [elsOf]) (by simp) (by simp; omega) M7.lim.2) ?_
    rintro v8 h8 ⟨fe8, O8, L8, F8, G8⟩
    have M8 := M7.addE (e := e5) (by simpa [Elem.cells] using O8) L8 v5 F8 G8
    have q8 := F8.arr M7.q fun z => by have := M7.oe _ z; have := M7.ord; omega
    have l8 : h8.lim ≤ qb := by rw [F8.lim]; have := M7.lim; have := M7.ord; omega
    obtain ⟨o1, o2⟩ := own_cells O8
    simp [k4, q8, nl (arr_lt q8), l8, ones, k9, w1, o1, o2]
    exact hN _ _ _ _ _ _ _ _ _ M8 ⟨by simp [k2], by simp [k3], by simp [k4], by simp [k5], by simp [k6], by simp [k7], by simp [k8]⟩ (by simp) hin (by simp [hes]) t1 t2 t3 t4
  · have hni : i = n := by omega
    simp [g2, g3, g4, g5, g6, g7, g8, g9, hin]
    exact hQ hni _ ⟨by simp, by simp, by simp, by simp, by simp, by simp, by simp⟩
end Dk.C
