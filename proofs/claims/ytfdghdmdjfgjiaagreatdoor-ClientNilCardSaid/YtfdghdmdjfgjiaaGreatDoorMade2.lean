/- Queries by plain numbers: names of a condition. -/
import Derived.Test.YtfdghdmdjfgjiaaGreatDoorMade1
set_option linter.unusedVariables false
set_option linter.unusedSimpArgs false
set_option linter.unusedSectionVars false
namespace Dk.C
open Go Dk

def mNm : DC := .seq (.seq (.ops [S 100 (.mv (.t 14)),
         S 101 (.mv (.t 8)),
         S 102 (.bin .lss .none (.t 100) (.t 101))])
       (.cond (.t 102)
        (.skip)
        (.exit 4)))
       (.seq (.block 5 (.seq (.ops [S 105 (.fld 0 (.t 4)),
          S 106 (.ld false 1 (.t 105)),
          S 107 (.mv (.t 14)),
          S 108 (.ixa 4 (.t 106) (.t 107)),
          S 109 (.fld 3 (.t 108)),
          S 110 (.ld false 1 (.t 109))])
        (.cond (.t 110)
         (.ops [S 111 (.mv (.t 13)),
           S 112 (.mv (.t 14)),
           S 113 (.ixa 1 (.t 111) (.t 112)),
           E (.st 1 (.t 113) (.v (.p (.str (bs [97])))))])
         (.skip))))
       (.ops [S 103 (.mv (.t 14)),
         S 104 (.bin .add .none (.t 103) (xI 1)),
         S 14 (.mv (.t 104))]))
def mNs : DC := .seq (.ops [S 91 (.lit 1 false [] []),
       S 92 (.mv (.t 8)),
       S 93 (.sla 4 1 (.t 6) none (some (.t 92))),
       S 95 (.mv (.t 8)),
       S 96 (.ixp 4 1 (.t 6) (.t 95)),
       S 97 (.ld false 1 (.t 96)),
       S 98 (.lit 1 false [[(.p (.str (bs [])))]] [(0, (.t 97))]),
       ⟨(some 94), .app 1 false 16 (.t 91) (.t 93), none, [(97, .ld false 1 (.t 96), none)]⟩,
       S 99 (.app 1 false 16 (.t 94) (.t 98)),
       S 13 (.mv (.t 99))])
     (.seq (.ops [S 14 (.mv (xI 0))])
     (.block 4 (.loop [2, 3, 4, 5, 6, 7, 8, 12, 13, 14] mNm)))
variable {xs : List Int} {rz rb qb ab n : Nat} {w : Int} {kk : Bool} {h h' : Hp} {es : List Elem} {cs : List Cc} {tv ev cv : EV} {ths : List ByteArray} {fe fc ft : List Nat}
/-- Names that lie in a row made anew. -/
structure NmAt (h : Hp) (B g k : Nat) (nms : List ByteArray) : Prop where
  arr : h.arr B g = some ⟨g, 1, false, 0, strs nms⟩
  len : nms.length = k + 1
  ok : ∀ s ∈ nms, isVar s
theorem nms_round {f : Fr} {k j B g : Nat} {nms : List ByteArray} {y : EV} {Q : Ex → Fr → Hp → Prop} (M : MdAt xs rz rb qb ab w kk h es cs tv ths ev cv fe fc ft) (G : MdF rz rb qb ab n tv k f) (g12 : f.get 12 = y) (g13 : f.get 13 = .arr B g 1 0 (k + 1) false) (g14 : f.get 14 = eI j) (N : NmAt h B g k nms) (hk : k < es.length) (he : es.length ≤ 4) (hj : j ≤ k) (hl : h.lim ≤ B)
    (hQ : ∀ f', MdF rz rb qb ab n tv k f' → f'.get 12 = y → f'.get 13 = .arr B g 1 0 (k + 1) false → Q (.exit 4) f' h)
    (hN : ∀ f' h' nms', MdF rz rb qb ab n tv k f' → f'.get 12 = y → f'.get 13 = .arr B g 1 0 (k + 1) false → f'.get 14 = eI (j + 1 : Nat) → NmAt h' B g k nms' → Fwd [B] h h' → j < k → Q .normal f' h') :
    Run C0 [.code mNm] .normal (mask [2, 3, 4, 5, 6, 7, 8, 12, 13, 14] f) h Q := by
  obtain ⟨g2, g3, g4, g5, g6, g7, g8⟩ := G
  simp only [mNm]
  by_cases hjk : j < k
  · have hjk' : (j : Int) < (k : Int) := by omega
    obtain ⟨e, hje⟩ : ∃ e, es[j]? = some e := ⟨_, List.getElem?_eq_getElem (by omega)⟩
    obtain ⟨q, q', i1, i2, i3⟩ := els_fld (j := 3) (e := eB e.not) M.eo.els (i := j) (el := e.cells) (by rw [List.getElem?_map, hje]; rfl) rfl rfl rfl
    have w1 : IntKind.i64.wrap ((j : Int) + 1) = (j : Int) + 1 := wrap64 (by omega) (by omega)
    simp [g2, g3, g4, g5, g6, g7, g8, g12, g13, g14, hjk, M.q, nl M.lt.2.1, i1, i2, i3]
    cases hb : e.not with
    | true =>
      have e1 := N.arr
      simp only [strs] at e1
      have e2 := N.len
      have hjn : (j : Int) < (k : Int) + 1 := by omega
      have e3 : j < nms.length := by omega
      have hjn2 : j < k + 1 := by omega
      simp [hjn2, strs, e1, nl (arr_lt e1), hl, ones, w1, e3]
      refine hN _ _ (nms.set j (bs [97])) ⟨by simp, by simp, by simp, by simp, by simp, by simp, by simp⟩ (by simp) (by simp) (by simp) ⟨by simp [Hp.arr_set, arr_lt e1, strs, List.map_set], by simp [e2], fun s hs => ?_⟩ ((Fwd.refl _ _).set _ (by simp)) hjk
      rcases List.mem_or_eq_of_mem_set hs with z | z
      · exact N.ok s z
      · exact .inr (.inl z)
    | false =>
      simp [w1]
      exact hN _ _ _ ⟨by simp, by simp, by simp, by simp, by simp, by simp, by simp⟩ (by simp) (by simp) (by simp) N (Fwd.refl _ _) hjk
  · simp [g2, g3, g4, g5, g6, g7, g8, g12, g13, g14, hjk]
    exact hQ _ ⟨by simp, by simp, by simp, by simp, by simp, by simp, by simp⟩ (by simp) (by simp)
theorem Run_sla (C : CallFn) (l : List Step) (k : List Ct) (fr : Fr) (h : Hp) (Q : Ex → Fr → Hp → Prop) (d : Option Nat) (n sz : Nat) (x : X) (lo hi : Option X) : Run C (.ops (⟨d, .sla n sz x lo hi, none, []⟩ :: l) :: k) .normal fr h Q = PutO C d (sliceArr n sz (x.ev fr) (lo.map (X.ev fr)) (hi.map (X.ev fr))) (.ops l :: k) fr h Q := Run_look _ _ _ _ _ _ _ _ rfl
theorem nms_ok {f : Fr} {k : Nat} {y : EV} {Q : Ex → Fr → Hp → Prop} (M : MdAt xs rz rb qb ab w kk h es cs tv ths ev cv fe fc ft) (G : MdF rz rb qb ab n tv k f) (g12 : f.get 12 = y) (hk : k < es.length) (he : es.length ≤ 4)
    (hQ : ∀ f' h' B g nms, MdF rz rb qb ab n tv k f' → f'.get 12 = y → f'.get 13 = .arr B g 1 0 (k + 1) false → NmAt h' B g k nms → Fwd [] h h' → h.objs.length ≤ B → Q .normal f' h') :
    Run C0 [.code mNs] .normal f h Q := by
  have ml := M.lt
  have lim := M.lim
  obtain ⟨g2, g3, g4, g5, g6, g7, g8⟩ := G
  obtain ⟨s, sv, ix, ld⟩ := all_get M (k := k) (by omega)
  simp only [mNs]
  have sl : sliceArr 4 1 (.ptr ab 0 0 0) none (some (eI k)) = some (.sub ab 0 0 0 1 k) := by
    have hk4 : (k : Int) ≤ 4 := by omega
    simp [sliceArr, bounds, upper, lower, bound, hk4]
  simp [g8]
  obtain ⟨X, eX⟩ : ∃ X, X = h.new (.cells ⟨0, 1, false, 0, []⟩) := ⟨_, rfl⟩
  have FX : Fwd [] h X := by rw [eX]; exact (Fwd.refl _ _).new _
  have nX : X.objs.length = h.objs.length + 1 := by rw [eX]; simp
  have x0 : X.arr h.objs.length 0 = some ⟨0, 1, false, 0, []⟩ := by rw [eX]; simp
  rw [← eX]
  clear eX
  have MX := M.fwd FX
  simp [g6, g8, ix, Run_sla, sl, ld X (by rw [MX.all, M.all]), ones]
  obtain ⟨Y, eY⟩ : ∃ Y, Y = X.new (.cells ⟨0, 1, false, 0, [[.p (.str s)]]⟩) := ⟨_, rfl⟩
  have FY : Fwd [] X Y := by rw [eY]; exact (Fwd.refl _ _).new _
  have nY : Y.objs.length = X.objs.length + 1 := by rw [eY]; simp
  have y0 : Y.arr X.objs.length 0 = some ⟨0, 1, false, 0, [[.p (.str s)]]⟩ := by rw [eY]; simp
  rw [← eY]
  clear eY
  have MY := MX.fwd FY
  have a0 := FY.arr x0 (by simp)
  have lY : Y.lim ≤ Y.objs.length := MY.lim.2
  have hap : ∃ B nms Z, appendTo 1 false 16 (.arr h.objs.length 0 1 0 0 true) (.sub ab 0 0 0 1 k) Y = some (.arr B 0 1 0 k (decide (k = 0)), Z) ∧ Z.arr B 0 = some ⟨0, 1, false, 0, strs nms⟩ ∧ nms.length = k ∧ (∀ s ∈ nms, isVar s) ∧ Fwd [] Y Z ∧ h.objs.length ≤ B ∧ B ≠ X.objs.length := by
    have hk4 : k = 0 ∨ k = 1 ∨ k = 2 ∨ k = 3 := by omega
    rcases hk4 with rfl | rfl | rfl | rfl
    · refine ⟨h.objs.length, [], Y, ?_, a0, rfl, by simp, Fwd.refl _ _, by omega, by omega⟩
      simp [appendTo, elsOf, subEls, MY.all, a0]
    · refine ⟨Y.objs.length, [bs [97]], Y.new (.cells ⟨0, 1, false, 0, strs [bs [97]]⟩), ?_, by simp, rfl, ?_, (Fwd.refl _ _).new _, by omega, by omega⟩
      · simp [appendTo, elsOf, subEls, MY.all, a0, strs, List.range_succ]
      · simp [isVar]
    · refine ⟨Y.objs.length, [bs [97], bs [98]], Y.new (.cells ⟨0, 1, false, 0, strs [bs [97], bs [98]]⟩), ?_, by simp, rfl, ?_, (Fwd.refl _ _).new _, by omega, by omega⟩
      · simp [appendTo, elsOf, subEls, MY.all, a0, strs, List.range_succ]
      · simp [isVar]
    · refine ⟨Y.objs.length, [bs [97], bs [98], bs [99]], Y.new (.cells ⟨0, 1, false, 0, strs [bs [97], bs [98], bs [99]]⟩), ?_, by simp, rfl, ?_, (Fwd.refl _ _).new _, by omega, by omega⟩
      · simp [appendTo, elsOf, subEls, MY.all, a0, strs, List.range_succ]
      · simp [isVar]
  obtain ⟨B, nms, Z, ap, zB, nl1, nok, FZ, hB1, hB2⟩ := hap
  refine PutC_of (K := fun v hh => v = .arr B 0 1 0 k (decide (k = 0)) ∧ hh = Z) ⟨_, _, ap, rfl, rfl⟩ ?_
  rintro _ hz ⟨rfl, e⟩
  have e := e.symm
  subst e
  have FF : Fwd [] h Z := (FX.trans FY).trans FZ
  have MZ := M.fwd FF
  have z1 := FZ.arr y0 (by simp)
  have eqs : ∀ x : PD, EV.eqb (.p x) (.p x) = true := fun x => by simp [EV.eqb]
  simp [ld Z (by rw [MZ.all, M.all]), eqs]
  have lZ : Z.lim ≤ B := by rw [FF.lim]; omega
  have hap2 : ∃ B2 g2 V, appendTo 1 false 16 (.arr B 0 1 0 k (decide (k = 0))) (.arr X.objs.length 0 1 0 1 true) Z = some (.arr B2 g2 1 0 (k + 1) false, V) ∧ V.arr B2 g2 = some ⟨g2, 1, false, 0, strs (nms ++ [s])⟩ ∧ Fwd [B] Z V ∧ h.objs.length ≤ B2 := by
    by_cases hk0 : k = 0
    · subst hk0
      have nl0 : nms = [] := List.length_eq_zero_iff.1 nl1
      subst nl0
      refine ⟨Z.objs.length, 0, Z.new (.cells ⟨0, 1, false, 0, strs [s]⟩), ?_, by simp, (Fwd.refl _ _).new _, by have := arr_lt zB; omega⟩
      simp [appendTo, elsOf, z1, zB, strs]
    · refine ⟨B, 1, Z.setArr B ⟨1, 1, false, 0, strs (nms ++ [s])⟩, ?_, by simp [Hp.arr_set, arr_lt zB], (Fwd.refl _ _).set _ (by simp), hB1⟩
      have hk4 : (k + 1) * 16 ≤ 140737488355328 := by omega
      have hb : (strs nms).take k = strs nms := List.take_of_length_le (by simp [strs]; omega)
      have hb2 : (strs nms).length = k := by simp [strs, nl1]
      simp [appendTo, elsOf, z1, zB, hk0, hk4, lZ, hb2, hb]
      simp [strs]
  obtain ⟨B2, g', V, ap2, vB, FV, hB3⟩ := hap2
  refine PutA_of (K := fun v hh => v = .arr B2 g' 1 0 (k + 1) false ∧ hh = V) ⟨_, _, ap2, rfl, rfl⟩ ?_
  rintro _ hz ⟨rfl, e⟩
  have e := e.symm
  subst e
  have FFV : Fwd [] h V := FF.trans' FV (by simp; omega)
  simp
  refine Run_loop (fun z f' h' => ∃ j nms', z = k - j ∧ j ≤ k ∧ MdF rz rb qb ab n tv k f' ∧ f'.get 12 = y ∧ f'.get 13 = .arr B2 g' 1 0 (k + 1) false ∧ f'.get 14 = eI (j : Nat) ∧ NmAt h' B2 g' k nms' ∧ Fwd [] h h') (n := k) ⟨0, nms ++ [s], by simp, by omega, ⟨by simp [g2], by simp [g3], by simp [g4], by simp [g5], by simp [g6], by simp [g7], by simp [g8]⟩, by simp [g12], by simp, by simp, ⟨vB, by simp [nl1], fun x hx => ?_⟩, FFV⟩ ?_
  · rcases List.mem_append.1 hx with hx | hx
    · exact nok x hx
    · simp at hx; subst hx; exact sv
  rintro z f' h' ⟨j, nms', hz, hj, G', k12, k13, k14, N', F'⟩
  refine nms_round (M.fwd F') G' k12 k13 k14 N' hk he hj (by rw [F'.lim]; omega) (fun f2 G2 q12 q13 => ?_) (fun f2 h2 nms2 G2 q12 q13 q14 N2 F2 hjk => ?_)
  · simp
    exact hQ _ _ _ _ _ G2 q12 q13 N' F' hB3
  · simp only [LoopQ_normal]
    exact ⟨k - (j + 1), by omega, j + 1, nms2, rfl, by omega, G2, q12, q13, q14, N2, F'.trans' F2 (by simp; omega)⟩
end Dk.C
