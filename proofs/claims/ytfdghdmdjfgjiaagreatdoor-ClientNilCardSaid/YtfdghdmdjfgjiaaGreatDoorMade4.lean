/- Queries by plain numbers: made. -/
import Derived.Test.YtfdghdmdjfgjiaaGreatDoorMade3
set_option linter.unusedVariables false
set_option linter.unusedSimpArgs false
set_option linter.unusedSectionVars false
namespace Dk.C
open Go Dk

def mTl : DC := .seq (.ops [S 129 (.mv (.t 3)),
   S 130 (.mv (.t 5)),
   S 131 (.call n_Next [(.t 129), (.t 130)]),
   S 15 (.mv (.t 131))])
 (.seq (.seq (.ops [S 132 (.fld 0 (.t 4)),
   S 133 (.ld false 1 (.t 132)),
   S 134 (.mv (.t 15)),
   S 135 (.ixa 4 (.t 133) (.t 134)),
   S 136 (.fld 2 (.t 135)),
   S 137 (.ld false 1 (.t 136)),
   S 138 (.mv (.t 137)),
   ⟨(some 139), .mv (.t 3), (some (138, true)), []⟩,
   ⟨(some 140), .call n_Next [(.t 139), (xI 2)], (some (138, true)), []⟩,
   ⟨(some 141), .bin .eql .none (.t 140) (xI 0), (some (138, true)), []⟩,
   S 142 (.pick (.t 138) (.t 141) (xB false))])
 (.cond (.t 142)
  (.ops [S 143 (.fld 1 (.t 4)),
    S 144 (.ld false 1 (.t 143)),
    S 145 (.mv (.t 3)),
    S 148 (.mv (.t 15)),
    S 149 (.ixp 4 1 (.t 6) (.t 148)),
    S 150 (.ld false 1 (.t 149)),
    S 151 (.build [(eI 0), (eI 0), (.p (.str (bs []))), (eI 0), (eI 0)] [(0, 1, (xI 8)), (2, 1, (.t 150))]),
    S 152 (.lit 5 true [[(eI 0), (eI 0), (.p (.str (bs []))), (eI 0), (eI 0)]] [(0, (.t 151))]),
    S 153 (.mv (.t 3)),
    ⟨(some 146), .call n_Next [(.t 145), (xI 6)], none, [(150, .ld false 1 (.t 149), none), (144, .ld false 1 (.t 143), none)]⟩,
    S 147 (.bin .add .none (xI 1) (.t 146)),
    ⟨(some 154), .call n_Next [(.t 153), (xI 3)], none, [(150, .ld false 1 (.t 149), none), (144, .ld false 1 (.t 143), none)]⟩,
    S 155 (.bin .add .none (xI 1) (.t 154)),
    S 156 (.build [(eI 0), (eI 0), (.p (.str (bs []))), (eI 0), (eI 0)] [(0, 1, (xI 6)), (1, 1, (.t 155))]),
    S 157 (.lit 5 true [[(eI 0), (eI 0), (.p (.str (bs []))), (eI 0), (eI 0)]] [(0, (.t 156))]),
    S 158 (.build [(eI 0), (.full []), (.full [])] [(0, 1, (.t 147)), (1, 1, (.t 152)), (2, 1, (.t 157))]),
    S 159 (.lit 3 true [[(eI 0), (.full []), (.full [])]] [(0, (.t 158))]),
    S 160 (.app 3 true 56 (.t 144) (.t 159)),
    S 161 (.fld 1 (.t 4)),
    E (.st 1 (.t 161) (.t 160))])
  (.skip)))
 (.seq (.ops [S 162 (.ld true 4 (.t 4)),
   E (.st 4 (.t 2) (.t 162))])
 (.ret)))
variable {xs : List Int} {rz rb qb ab n : Nat} {w : Int} {kk : Bool} {h h' : Hp} {es : List Elem} {cs : List Cc} {tv ev cv : EV} {ths : List ByteArray} {fe fc ft : List Nat}
theorem isL.shows {P : Nat → Prop} {h : Hp} {v : EV} {l : List Code} (H : isL v l) (n : Nat) : Shows P h n v (.list (l.map Code.pd)) := by
  rcases H with rfl | rfl
  · exact .plain n
  · exact .full n
theorem cs_all2 {P : Nat → Prop} {h : Hp} : ∀ cs : List Cc, (∀ c ∈ cs, CcOK c) → All2 (ElShows (Shows P h 7) true) (cs.map Cc.cells) (cs.map fun c => c.1.pd)
  | [], _ => trivial
  | c :: l, H => ⟨⟨_, rfl, .plain 7, (H c (by simp)).l.shows 7, (H c (by simp)).r.shows 7, trivial⟩, cs_all2 l fun d hd => H d (by simp [hd])⟩
theorem es_all2 {P : Nat → Prop} {h : Hp} {n : Nat} : ∀ es : List Elem, All2 (ElShows (Shows P h n) true) (es.map Elem.cells) (es.map Elem.pd)
  | [] => trivial
  | c :: l => ⟨⟨_, rfl, .plain n, .plain n, .plain n, .plain n, trivial⟩, es_all2 l⟩
/-- A query that is made, ahead of its return. -/
structure FinJ (rz qb : Nat) (w : Int) (kk : Bool) (es : List Elem) (f : Fr) (h : Hp) : Prop where
  g2 : f.get 2 = .ptr rz 0 0 0
  g4 : f.get 4 = .ptr qb 0 0 0
  res : h.arr rz 0 = some ⟨0, 4, true, 0, [[.full [], .full [], eI 0, eB false]]⟩
  lim : h.lim ≤ rz
  ex : ∃ (ev cv : EV) (cs : List Cnd), h.arr qb 0 = some ⟨0, 4, true, 0, [[ev, cv, eI w, eB kk]]⟩ ∧ Shows (fun y => y ≠ rz) h 8 ev (.list (es.map Elem.pd)) ∧ Shows (fun y => y ≠ rz) h 8 cv (.list (cs.map Cnd.pd)) ∧ Slim ev ∧ Slim cv ∧ ev.cells = [ev] ∧ cv.cells = [cv] ∧ EV.one ev = true ∧ EV.one cv = true ∧ (∀ c ∈ cs, CndOK c) ∧ cs.length ≤ 3
structure MadeQ (rz : Nat) (f : Fr) (h : Hp) : Prop where
  g2 : f.get 2 = .ptr rz 0 0 0
  ex : ∃ (ev cv : EV) (q : Qry), h.arr rz 0 = some ⟨0, 4, true, 0, [[ev, cv, eI q.w, eB q.k]]⟩ ∧ Shows (fun y => y ≠ rz) h 8 ev (.list (q.es.map Elem.pd)) ∧ Shows (fun y => y ≠ rz) h 8 cv (.list (q.cs.map Cnd.pd)) ∧ Slim ev ∧ Slim cv ∧ QryOK q
theorem tail_ok {f : Fr} {nt : Int} {Q : Ex → Fr → Hp → Prop} (hx : xs.length ≤ 80) (M : MdAt xs rz rb qb ab w kk h es cs tv ths ev cv fe fc ft) (G : MdF rz rb qb ab n tv nt f) (hn : 1 ≤ n ∧ n ≤ 4) (hes : es.length = n) (hcs : cs.length ≤ 2) (hw : 0 ≤ w ∧ w ≤ 9) (hQ : ∀ f' h', MadeQ rz f' h' → Q .ret f' h') : Run C0 [.code mTl] .normal f h Q := by
  obtain ⟨g2, g3, g4, g5, g6, g7, g8⟩ := G
  obtain ⟨r, R⟩ := M.row
  simp only [mTl]
  simp [g3, g5]
  refine PutA_of (next_ok R hx (by omega)) ?_
  rintro _ h1 ⟨k, r1, rfl, z1, z2, R1, F1⟩
  have M1 := M.next R1 F1
  obtain ⟨j, rfl⟩ : ∃ j : Nat, k = j := ⟨k.toNat, by omega⟩
  have hj : j < es.length := by omega
  obtain ⟨e, hje⟩ : ∃ e, es[j]? = some e := ⟨_, List.getElem?_eq_getElem hj⟩
  obtain ⟨q, q', i1, i2, i3⟩ := els_fld (j := 2) (e := eB e.plus) M1.eo.els (i := j) (el := e.cells) (by rw [List.getElem?_map, hje]; rfl) rfl rfl rfl
  obtain ⟨o1, o2⟩ := own_cells M1.eo
  have dz : ∀ {fq : List Nat}, (∀ y ∈ fq, ab < y) → ∀ y ∈ fq, y ≠ rz := fun H y hy => by have := H y hy; have := M.ord; omega
  simp [g4, M1.q, nl M1.lt.2.1, o2, i1, i2, i3]
  have fin : ∀ f' h', MdAt xs rz rb qb ab w kk h' es cs tv ths ev cv fe fc ft → f'.get 2 = .ptr rz 0 0 0 → f'.get 4 = .ptr qb 0 0 0 → FinJ rz qb w kk es f' h' := fun f' h' M' k2 k4 => ⟨k2, k4, M'.res, M'.lim.1, ev, cv, cs.map fun c => c.1, M'.q, own_shows M'.eo (dz M'.oe) (es_all2 es), by rw [List.map_map]; exact own_shows M'.co (dz M'.oc) (cs_all2 cs M'.csv), M'.el, M'.cl, (own_cells M'.eo).1, (own_cells M'.co).1, (own_cells M'.eo).2, (own_cells M'.co).2, fun c hc => by obtain ⟨d, hd, rfl⟩ := List.mem_map.1 hc; exact (M'.csv d hd).ok, by simp; omega⟩
  refine Gd_join2 (FinJ rz qb w kk es) ?_ ?_
  · cases e.plus with
    | false =>
      simp
      exact fin _ _ M1 (by simp [g2]) (by simp [g4])
    | true =>
      simp [g3]
      refine PutA_of (next_ok R1 hx (by omega)) ?_
      rintro _ h2 ⟨n2, r2, rfl, z3, z4, R2, F2⟩
      have M2 := M1.next R2 F2
      by_cases h2z : n2 = 0
      · obtain ⟨s, sv, ix, ld⟩ := all_get M2 (k := j) (by omega)
        have ceq := own_eqb M2.co
        have eqs : ∀ x : PD, EV.eqb (.p x) (.p x) = true := fun x => by simp [EV.eqb]
        simp [h2z, g3, g4, g6, M2.q, nl M2.lt.2.1, (own_cells M2.co).2, ix, ld h2 rfl, ones]
        obtain ⟨X, eX⟩ : ∃ X, X = h2.new (.cells ⟨0, 5, true, 0, [(⟨8, 0, s, 0, 0⟩ : Code).cells]⟩) := ⟨_, rfl⟩
        have FX : Fwd [] h2 X := by rw [eX]; exact (Fwd.refl _ _).new _
        have x0 : X.arr h2.objs.length 0 = some ⟨0, 5, true, 0, [(⟨8, 0, s, 0, 0⟩ : Code).cells]⟩ := by rw [eX]; simp
        simp only [Code.cells] at eX
        rw [← eX]
        clear eX
        have MX := M2.fwd FX
        refine PutC_of (next_ok (R2.fwd FX (by simp)) hx (by omega)) ?_
        rintro _ h3 ⟨n3, r3, rfl, z5, z6, R3, F3⟩
        have M3 := MX.next R3 F3
        have w3 : IntKind.i64.wrap (1 + n3) = 1 + n3 := wrap64 (by omega) (by omega)
        simp [g4, M3.q, nl M3.lt.2.1, (own_cells M3.co).2, ceq, eqs, ld h3 (by rw [M3.all, M2.all]), w3]
        refine PutC_of (next_ok R3 hx (by omega)) ?_
        rintro _ h4 ⟨n4, r4, rfl, z7, z8, R4, F4⟩
        have M4 := M3.next R4 F4
        have w4 : IntKind.i64.wrap (1 + n4) = 1 + n4 := wrap64 (by omega) (by omega)
        simp [g4, M4.q, nl M4.lt.2.1, (own_cells M4.co).2, ceq, eqs, ld h4 (by rw [M4.all, M2.all]), w4, ones]
        obtain ⟨Y, eY⟩ : ∃ Y, Y = (h4.new (.cells ⟨0, 5, true, 0, [[eI 6, eI (1 + n4), .p (.str (bs [])), eI 0, eI 0]]⟩)).new (.cells ⟨0, 3, true, 0, [[eI (1 + n3), .arr h2.objs.length 0 5 0 1 true, .arr h4.objs.length 0 5 0 1 true]]⟩) := ⟨_, rfl⟩
        have FY : Fwd [] h4 Y := by rw [eY]; exact ((Fwd.refl _ _).new _).new _
        have y1 : Y.arr h4.objs.length 0 = some ⟨0, 5, true, 0, [(⟨6, 1 + n4, bs [], 0, 0⟩ : Code).cells]⟩ := by rw [eY]; simp [Code.cells]
        have y2 : Y.arr (h4.objs.length + 1) 0 = some ⟨0, 3, true, 0, [[eI (1 + n3), .arr h2.objs.length 0 5 0 1 true, .arr h4.objs.length 0 5 0 1 true]]⟩ := by rw [eY]; simp
        rw [← eY]
        clear eY
        have MY := M4.fwd FY
        have n2b : h2.objs.length ∉ [rb] := fun z => by simp at z; have := M2.lt; omega
        have yx := FY.arr (F4.arr (F3.arr x0 n2b) n2b) (by simp)
        have n24 : h2.objs.length < h4.objs.length := by have := arr_lt (F4.arr (F3.arr x0 n2b) n2b); exact this
        refine PutA_of (Own.add MY.co (x := .arr (h4.objs.length + 1) 0 3 0 1 true) (ys := [[eI (1 + n3), .arr h2.objs.length 0 5 0 1 true, .arr h4.objs.length 0 5 0 1 true]]) (by simp [elsOf, y2]) (by simp) (by simp; omega) MY.lim.2) ?_
        rintro va ha ⟨fca, Oa, La, Fa, Ga⟩
        have nfc2 : h2.objs.length ∉ fc := fun z => by have := M2.co.lt _ z; omega
        have nfc4 : h4.objs.length ∉ fc := fun z => by have := M4.co.lt _ z; omega
        have a1 := Fa.arr y1 nfc4
        have a2 := Fa.arr yx nfc2
        have qa := Fa.arr MY.q fun z => by have := MY.oc _ z; have := M.ord; omega
        have la : ha.lim ≤ rz := by rw [Fa.lim]; exact MY.lim.1
        have ra := Fa.arr MY.res fun z => by have := MY.oc _ z; have := M.ord; omega
        have Ea := MY.eo.fwd Fa MY.ec
        have na : ∀ y ∈ fca, ab < y := fun y hy => by
          rcases Ga y hy with z | z
          · exact MY.oc y z
          · have := MY.lt; omega
        obtain ⟨p1, p2⟩ := own_cells Oa
        have laq : ha.lim ≤ qb := by have := M.ord; omega
        simp [g4, qa, nl (arr_lt qa), laq, p1, p2, ones]
        have FZ : Fwd [qb] ha (ha.setArr qb ⟨0, 4, true, 0, [[ev, va, eI w, eB kk]]⟩) := (Fwd.refl _ _).set _ (by simp)
        have dq : ∀ {fq : List Nat}, (∀ y ∈ fq, ab < y) → ∀ y ∈ fq, y ∉ [qb] := fun H y hy z => by simp at z; have := H y hy; have := M.ord; omega
        have one : ∀ (hh : Hp) (id : Nat) (c : Code), hh.arr id 0 = some ⟨0, 5, true, 0, [c.cells]⟩ → hh.lim ≤ id → id ≠ rz → Shows (fun y => y ≠ rz) hh 7 (.arr id 0 5 0 1 true) (.list ([c].map Code.pd)) := fun hh id c e1 e2 e3 => by
          have := Own.arr (h := hh) (id := id) (g := 0) (sz := 5) (ag := true) (off := 0) (len := 1) (frz := 0) (f := true) (E := [c.cells]) e1 (by simp) (by simp) e2
          exact own_shows (n := 6) (els := [c].map Code.cells) (by simpa using this) (fun y hy => by simp at hy; subst hy; exact e3) (codes_all2 [c])
        have mo := M.ord
        have m2 := M2.lt
        have dd2 : h2.objs.length ∉ [qb] := by simp; omega
        have dd4 : h4.objs.length ∉ [qb] := by simp; omega
        have okc : ∀ c : Code, CodeOK c → CodesOK [c] := fun c hc => ⟨fun d hd => by simp at hd; subst hd; exact hc, by simp⟩
        refine ⟨by simp [g2], by simp [g4], FZ.arr ra (by simp; omega), by simpa using la, ev, va, (cs.map fun c => c.1) ++ [⟨1 + n3, [⟨8, 0, s, 0, 0⟩], [⟨6, 1 + n4, bs [], 0, 0⟩]⟩], by simp [Hp.arr_set, arr_lt qa], own_shows (Ea.fwd FZ (dq M.oe)) (dz M.oe) (es_all2 es), ?_, M.el, La, o1, p1, o2, p2, fun c hc => ?_, by simp; omega⟩
        · have O := Oa.fwd FZ (dq na)
          rw [List.map_append, List.map_map]
          refine own_shows O (dz na) ((cs_all2 cs M.csv).append ⟨⟨_, rfl, .plain 7, ?_, ?_, trivial⟩, trivial⟩)
          · exact one _ _ _ (FZ.arr a2 dd2) (by rw [FZ.lim]; omega) (by omega)
          · exact one _ _ _ (FZ.arr a1 dd4) (by rw [FZ.lim]; omega) (by omega)
        · rcases List.mem_append.1 hc with hc | hc
          · obtain ⟨d, hd, rfl⟩ := List.mem_map.1 hc
            exact (M.csv d hd).ok
          · simp at hc
            subst hc
            exact ⟨okc _ ⟨sv, by simp⟩, okc _ ⟨isVar_e, by simp; omega⟩⟩
      · simp [h2z]
        exact fin _ _ M2 (by simp [g2]) (by simp [g4])
  rintro f5 h5 ⟨k2, k4, res, lm, ev5, cv5, cnds, q5, S1, S2, s1, s2, c1, c2, b1, b2, ok, len⟩
  have lq := arr_lt q5
  have lr := arr_lt res
  simp [k2, k4, q5, nl lq, res, nl lr, c1, c2, b1, b2, lm, ones]
  have F : Fwd [rz] h5 (h5.setArr rz ⟨0, 4, true, 0, [[ev5, cv5, eI w, eB kk]]⟩) := (Fwd.refl _ _).set _ (by simp)
  exact hQ _ _ ⟨by simp [k2], ev5, cv5, ⟨es, cnds, w, kk⟩, by simp [Hp.arr_set, lr], S1.fwd F (by simp), S2.fwd F (by simp), s1, s2, ⟨M.esv, ok, by simp; omega, by simp; omega, hw⟩⟩
theorem sls80 (xs : List Int) (h : ¬ xs.length ≤ 80) : sliceOf 1 (.p (.list (xs.map iN))) none (some (eI 80)) none = some (.p (.list ((xs.take 80).map iN))) := by
  have h1 : (80 : Int) ≤ (xs.length : Int) := by omega
  have h2 : sized 1 (xs.map iN) = true := ints_sized xs
  simp [sliceOf, h2, bounds, upper, lower, bound, h1, sliceEls, List.map_take]
/-- A query by plain numbers can be made. -/
theorem made_ok (xs : List Int) {h : Hp} (hh : h.lim ≤ h.objs.length) : ∃ q : Qry, QryOK q ∧ C0 n_Made [.p (.list (xs.map iN))] h = some (.agg q.cells, h) := by
  suffices hw : ∃ v, (∃ q : Qry, v = .agg q.cells ∧ QryOK q) ∧ C0 n_Made [.p (.list (xs.map iN))] h = some (v, h) by
    obtain ⟨v, ⟨q, rfl, e⟩, z⟩ := hw
    exact ⟨q, e, z⟩
  refine call_locSX noExt_mono (f := n_Made) rfl rfl (fun v ⟨q, e, _⟩ => by subst e; rfl) fun h0 e0 el => ?_
  have l0 : h0.lim ≤ h0.objs.length := by omega
  simp [ints_sized]
  obtain ⟨X, eX⟩ : ∃ X, X = h0.new (.cells ⟨0, 4, true, 0, [[.full [], .full [], eI 0, eB false]]⟩) := ⟨_, rfl⟩
  have FX : Fwd [] h0 X := by rw [eX]; exact (Fwd.refl _ _).new _
  have x0 : X.arr h0.objs.length 0 = some ⟨0, 4, true, 0, [[.full [], .full [], eI 0, eB false]]⟩ := by rw [eX]; simp
  have nX : X.objs.length = h0.objs.length + 1 := by rw [eX]; simp
  rw [← eX]
  clear eX
  refine Br_join (fun f h' => h' = X ∧ f.get 2 = .ptr h0.objs.length 0 0 0 ∧ ∃ ys : List Int, ys.length ≤ 80 ∧ f.get 0 = .p (.list (ys.map iN))) ?_ ?_
  · by_cases hx : xs.length ≤ 80
    · have hx' : ¬ (80 : Int) < (xs.length : Int) := by omega
      simp [hx']
      exact ⟨xs, hx, rfl⟩
    · have hx' : (80 : Int) < (xs.length : Int) := by omega
      have s80 := sls80 xs hx
      simp [hx', s80]
      exact ⟨xs.take 80, by simp; omega, by simp [List.map_take]⟩
  rintro f1 h1 ⟨e, k2, ys, hy, k0⟩
  have e := e.symm
  subst e
  simp [k0, ones]
  obtain ⟨Y, eY⟩ : ∃ Y, Y = X.new (.cells ⟨0, 2, true, 0, [[.p (.list (ys.map iN)), eI 0]]⟩) := ⟨_, rfl⟩
  have FY : Fwd [] X Y := by rw [eY]; exact (Fwd.refl _ _).new _
  have y0 : Y.arr X.objs.length 0 = some ⟨0, 2, true, 0, [[.p (.list (ys.map iN)), eI 0]]⟩ := by rw [eY]; simp
  have nY : Y.objs.length = X.objs.length + 1 := by rw [eY]; simp
  rw [← eY]
  clear eY
  have lX : X.lim = h0.lim := FX.lim
  have lY : Y.lim = h0.lim := FY.lim.trans lX
  have RY : RowAt Y X.objs.length ys 0 := ⟨y0, by omega, by omega⟩
  refine PutA_of (next_ok RY hy (by omega)) ?_
  rintro _ h2 ⟨n2, r2, rfl, z1, z2, R2, F2⟩
  have w2 : IntKind.i64.wrap (1 + n2) = 1 + n2 := wrap64 (by omega) (by omega)
  simp [w2]
  refine PutA_of (next_ok R2 hy (by omega)) ?_
  rintro _ h3 ⟨n3, r3, rfl, z3, z4, R3, F3⟩
  have FF3 := F2.trans F3
  have n3l := FF3.len
  have l3 : h3.lim = h0.lim := FF3.lim.trans lY
  have l3' : h3.lim ≤ h3.objs.length := by omega
  simp [ones, l3']
  obtain ⟨Z, eZ⟩ : ∃ Z, Z = (h3.new (.cells ⟨0, 4, true, 0, [[.full [], .full [], eI 0, eB false]]⟩)).setArr h3.objs.length ⟨0, 4, true, 0, [[.full [], .full [], eI (1 + n2), eB (decide (n3 = 1))]]⟩ := ⟨_, rfl⟩
  have FZ : Fwd [] h3 Z := by rw [eZ]; exact ((Fwd.refl _ _).new _).set _ (.inr (by simp))
  have zq : Z.arr h3.objs.length 0 = some ⟨0, 4, true, 0, [[.full [], .full [], eI (1 + n2), eB (decide (n3 = 1))]]⟩ := by rw [eZ]; simp [Hp.arr_set]
  have nZ : Z.objs.length = h3.objs.length + 1 := by rw [eZ]; simp
  rw [← eZ]
  clear eZ
  have lZ : Z.lim = h0.lim := FZ.lim.trans l3
  have RZ := R3.fwd FZ (by simp)
  refine PutA_of (next_ok RZ hy (by omega)) ?_
  rintro _ h4 ⟨n4, r4, rfl, z5, z6, R4, F4⟩
  have n4l := F4.len
  have l4 : h4.lim = h0.lim := F4.lim.trans lZ
  have l4' : h4.lim ≤ h4.objs.length := by omega
  have w4 : IntKind.i64.wrap (1 + n4) = 1 + n4 := wrap64 (by omega) (by omega)
  simp [ones, l4', w4]
  obtain ⟨V, eV⟩ : ∃ V, V = (h4.new (.cells ⟨0, 4, true, 0, [[.p (.str (bs [])), .p (.str (bs [])), .p (.str (bs [])), .p (.str (bs []))]]⟩)).setArr h4.objs.length ⟨0, 4, true, 0, [[.p (.str (bs [97])), .p (.str (bs [98])), .p (.str (bs [99])), .p (.str (bs [100]))]]⟩ := ⟨_, rfl⟩
  have FV : Fwd [] h4 V := by rw [eV]; exact ((Fwd.refl _ _).new _).set _ (.inr (by simp))
  have va : V.arr h4.objs.length 0 = some ⟨0, 4, true, 0, [[.p (.str (bs [97])), .p (.str (bs [98])), .p (.str (bs [99])), .p (.str (bs [100]))]]⟩ := by rw [eV]; simp [Hp.arr_set]
  have nV : V.objs.length = h4.objs.length + 1 := by rw [eV]; simp
  rw [← eV]
  clear eV
  have lV : V.lim = h0.lim := FV.lim.trans l4
  obtain ⟨U, eU⟩ : ∃ U, U = V.new (.cells ⟨0, 1, false, 0, []⟩) := ⟨_, rfl⟩
  have FU : Fwd [] V U := by rw [eU]; exact (Fwd.refl _ _).new _
  have nU : U.objs.length = V.objs.length + 1 := by rw [eU]; simp
  have u0 : U.arr V.objs.length 0 = some ⟨0, 1, false, 0, []⟩ := by rw [eU]; simp
  rw [← eU]
  clear eU
  have lU : U.lim = h0.lim := FU.lim.trans lV
  have sl : Slim (.full []) := by intro _ _ _ _ _ q; cases q
  have M0 : MdAt ys h0.objs.length X.objs.length h3.objs.length h4.objs.length (1 + n2) (decide (n3 = 1)) U [] [] (.arr V.objs.length 0 1 0 0 false) [] (.full []) (.full []) [] [] [V.objs.length] := by
    refine ⟨FU.arr (FV.arr (F4.arr (FZ.arr (FF3.arr (FY.arr x0 (by simp)) (by simp; omega)) (by simp)) (by simp; omega)) (by simp)) (by simp), ⟨r4, (R4.fwd FV (by simp)).fwd FU (by simp)⟩, FU.arr (FV.arr (F4.arr zq (by simp; omega)) (by simp)) (by simp), FU.arr va (by simp), .nil, .nil, Own.empty false u0 (by omega), sl, sl, by simp, by simp, by simp, ⟨by omega, by omega, by omega⟩, by simp, by simp, by simp; omega, by simp, by simp, by simp, by omega, by omega⟩
  obtain ⟨n, hn⟩ : ∃ n : Nat, 1 + n4 = n := ⟨(1 + n4).toNat, by omega⟩
  rw [hn]
  have hn2 : 1 ≤ n ∧ n ≤ 4 := by omega
  refine Run_loop (fun z f h' => ∃ i es tv ths ev fe ft nt, z = n - i ∧ MdAt ys h0.objs.length X.objs.length h3.objs.length h4.objs.length (1 + n2) (decide (n3 = 1)) h' es [] tv ths ev (.full []) fe [] ft ∧ MdF h0.objs.length X.objs.length h3.objs.length h4.objs.length n tv nt f ∧ f.get 9 = eI (i : Nat) ∧ i ≤ n ∧ es.length = i ∧ (ths.length ≤ i ∧ (0 < i → 0 < ths.length)) ∧ -1 ≤ nt ∧ nt < i) (n := n) ⟨0, [], .arr V.objs.length 0 1 0 0 false, [], .full [], [], [V.objs.length], -1, rfl, M0, ⟨by simp [k2], by simp, by simp, by simp, by simp, by simp [nV], by simp⟩, by simp, by omega, rfl, ⟨by simp, by simp⟩, by omega, by omega⟩ ?_
  rintro z f5 h5 ⟨i, es, tv, ths, ev, fe, ft, nt, hz, M5, G5, g9, hi, hes, hth, hnt⟩
  refine els_round hy M5 G5 g9 hi hn2.2 hes hth hnt (fun hin f6 G6 => ?_) (fun f6 h6 es6 tv6 ths6 ev6 fe6 ft6 nt6 M6 G6 q9 q1 q2 q3 q4 q5 q6 => ?_)
  · subst hin
    obtain ⟨k62, k63, k64, k65, k66, k67, k68⟩ := G6
    simp
    refine Run_loop (fun z f h' => ∃ c cs cv fc, z = 2 - c ∧ MdAt ys h0.objs.length X.objs.length h3.objs.length h4.objs.length (1 + n2) (decide (n3 = 1)) h' es cs tv ths ev cv fe fc ft ∧ MdF h0.objs.length X.objs.length h3.objs.length h4.objs.length i tv nt f ∧ f.get 12 = eI (c : Nat) ∧ c ≤ 2 ∧ cs.length = c) (n := 2) ⟨0, [], .full [], [], rfl, M5, ⟨by simp [k62], by simp [k63], by simp [k64], by simp [k65], by simp [k66], by simp [k67], by simp [k68]⟩, by simp, by omega, rfl⟩ ?_
    rintro z f7 h7 ⟨c, cs, cv, fc, hz, M7, G7, g12, hc, hcs⟩
    refine co_rnd hy M7 G7 g12 hn2.2 hes ⟨hth.1, hth.2 (by omega)⟩ hnt hc hcs (fun f8 h8 M8 G8 => ?_) (fun f8 h8 cs8 cv8 fc8 M8 G8 q12 q1 q2 => ?_)
    · simp only [LoopQ_exit, Run_exit_same]
      refine tail_ok hy M8 G8 hn2 hes (by omega) (by omega) fun f9 h9 R => ?_
      obtain ⟨k92, ev9, cv9, q, r9, S1, S2, s1, s2, ok⟩ := R
      have r9' : loadAt true 4 (.ptr h0.objs.length 0 0 0) h9 = some (.agg [ev9, cv9, eI q.w, eB q.k]) := by simp [loadAt, r9, mk]
      obtain ⟨os1, e1, P1⟩ := shareV_showsP (os := h9.objs) (lim := h9.lim) S1 s1
      obtain ⟨os2, e2, P2⟩ := shareV_showsP (os := os1) (lim := h9.lim) (Shows.sim P1.1 S2) s2
      simp [EndsS, k92, r9', shareVs, shareV, e1, e2]
      exact ⟨q, rfl, ok⟩
    · simp only [LoopQ_normal]
      exact ⟨2 - (c + 1), by omega, c + 1, cs8, cv8, fc8, rfl, M8, G8, q12, by omega, q1⟩
  · simp only [LoopQ_normal]
    exact ⟨n - (i + 1), by omega, i + 1, es6, tv6, ths6, ev6, fe6, ft6, nt6, rfl, M6, G6, q9, by omega, q2, ⟨q4, fun _ => q3⟩, q5, by omega⟩
end Dk.C
