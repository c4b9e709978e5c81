/- Calls by plain numbers: they can be made. -/
import Derived.Test.YtfdghdmdjfgjiaaGreatDoorMade4
import Derived.Test.YtfdghdmdjfgjiaaGreatDoorAwake
set_option linter.unusedVariables false
set_option linter.unusedSimpArgs false
set_option linter.unusedSectionVars false
namespace Dk.C
open Go Dk

theorem rest_ok (x n : Int) (hx : -9223372036854775808 ≤ x ∧ x < 9223372036854775808) (hn : 0 < n) (hb : n < 1000000) : ∃ r : Int, 0 ≤ r ∧ r < n ∧ ∀ h, C0 n_sibyllaw20_rest [eI x, eI n] h = some (eI r, h) := by
  have h1 : -n < x.tmod n := Int.lt_tmod_of_pos x hn
  have h2 : x.tmod n < n := Int.tmod_lt_of_pos x hn
  refine ⟨(x.tmod n + n).tmod n, Int.tmod_nonneg _ (by omega), Int.tmod_lt_of_pos _ hn, fun h => ?_⟩
  refine call_loc noExt_mono (f := n_sibyllaw20_rest) rfl rfl rfl fun h0 e0 el => ?_
  have hne : ¬ n = 0 := by omega
  have w1 : IntKind.i64.wrap (x.tmod n + n) = x.tmod n + n := wrap64 (by omega) (by omega)
  simp [Ends, hne, w1]
structure EvI (id : Nat) (N : Int) (len z : Nat) (f : Fr) (h' : Hp) : Prop where
  g0 : f.get 0 = .arr id 0 1 0 1 true
  g1 : f.get 1 = eI 1
  lim : h'.lim ≤ h'.objs.length
  ex : ∃ (i : Nat) (els : List (List EV)) (ps : List PD) (fp : List Nat), z = 1 - i ∧ len ≤ h'.objs.length ∧ i ≤ 1 ∧ f.get 6 = eI i ∧ h'.arr id 0 = some ⟨0, 1, false, 0, [[eI N]]⟩ ∧ Own h' 6 true (f.get 5) els fp ∧ (∀ y ∈ fp, len ≤ y) ∧ All2 (ElShows (Shows (fun _ => True) h' 7) true) els ps ∧ (i = 1 → ∃ c : List PD, c.length = 6 ∧ ps = [.agg c]) ∧ (i = 0 → els = [])
theorem events_ok {h : Hp} {id : Nat} {N : Int} (ha : h.arr id 0 = some ⟨0, 1, false, 0, [[eI N]]⟩) (hh : h.lim ≤ h.objs.length) : ∃ v, (∃ c : List PD, c.length = 6 ∧ (v = .p (.list [.agg c]) ∨ v = .full [.agg c])) ∧ C0 n_Events [.arr id 0 1 0 1 true, eI 1] h = some (v, h) := by
  refine call_locSX noExt_mono (f := n_Events) rfl rfl (fun v ⟨c, _, e⟩ => by rcases e with rfl | rfl <;> rfl) fun h0 e0 el => ?_
  have a0 : h0.arr id 0 = some ⟨0, 1, false, 0, [[eI N]]⟩ := by rw [← ha]; simp [Hp.arr, e0]
  simp
  obtain ⟨X, eX⟩ : ∃ X, X = (h0.new (.cells ⟨0, 6, true, 0, []⟩)).new (.cells ⟨0, 6, true, 0, []⟩) := ⟨_, rfl⟩
  have FX : Fwd [] h0 X := by rw [eX]; exact ((Fwd.refl _ _).new _).new _
  have x0 : X.arr (h0.objs.length + 1) 0 = some ⟨0, 6, true, 0, []⟩ := by rw [eX]; simp
  have nX : X.objs.length = h0.objs.length + 2 := by rw [eX]; simp
  rw [← eX]
  clear eX
  have lX : X.lim = h0.lim := FX.lim
  refine Run_loop (EvI id N h0.objs.length) (n := 1) ⟨by simp, by simp, by omega, 0, [], [], [h0.objs.length + 1], rfl, by omega, by omega, by simp, FX.arr a0 (by simp), by simpa using Own.empty false x0 (by omega), by simp, trivial, by simp, by simp⟩ ?_
  rintro z f1 h1 ⟨g0, g1, l1, i, els, ps, fp, hz, hl1, hi, g6, a1, O, nfp, A, hp, hq⟩
  have hi2 : i = 0 ∨ i = 1 := by omega
  rcases hi2 with rfl | rfl
  · simp [g0, g1, g6, a1, nl (arr_lt a1), idx]
    refine Br_join (fun f h' => h' = h1 ∧ f.get 0 = .arr id 0 1 0 1 true ∧ f.get 1 = eI 1 ∧ f.get 5 = f1.get 5 ∧ f.get 6 = eI 0 ∧ ∃ M : Int, f.get 7 = eI M) ?_ ?_
    · by_cases hN : N < 0
      · simp [hN]
      · simp [hN]
    rintro f2 h2 ⟨e, k0, k1, k5, k6, M, k7⟩
    have e := e.symm
    subst e
    simp [k0, k1, k5, k6, k7, ones]
    obtain ⟨Y, eY⟩ : ∃ Y, Y = h1.new (.cells ⟨0, 6, true, 0, [[eI (M.tmod 3), eI ((IntKind.i64.wrap (M.tdiv 3)).tmod 3), eI ((IntKind.i64.wrap (M.tdiv 9)).tmod 4), eI ((IntKind.i64.wrap (M.tdiv 36)).tmod 3), eI (M.tmod 7), eI 0]]⟩) := ⟨_, rfl⟩
    have FY : Fwd [] h1 Y := by rw [eY]; exact (Fwd.refl _ _).new _
    have y0 : Y.arr h1.objs.length 0 = some ⟨0, 6, true, 0, [[eI (M.tmod 3), eI ((IntKind.i64.wrap (M.tdiv 3)).tmod 3), eI ((IntKind.i64.wrap (M.tdiv 9)).tmod 4), eI ((IntKind.i64.wrap (M.tdiv 36)).tmod 3), eI (M.tmod 7), eI 0]]⟩ := by rw [eY]; simp
    rw [← eY]
    clear eY
    have lY := FY.limlen l1
    have he0 := hq rfl
    have hlen : h0.objs.length ≤ h1.objs.length := hl1
    subst he0
    refine PutA_of ((O.fwd FY (by simp)).append (x := .arr h1.objs.length 0 6 0 1 true) (ys := [[eI (M.tmod 3), eI ((IntKind.i64.wrap (M.tdiv 3)).tmod 3), eI ((IntKind.i64.wrap (M.tdiv 9)).tmod 4), eI ((IntKind.i64.wrap (M.tdiv 36)).tmod 3), eI (M.tmod 7), eI 0]]) (by simp [elsOf, y0]) (by simp) lY) ?_
    rintro v3 h3 ⟨fp3, O3, F3, G3⟩
    have hid := arr_lt a0
    have hl0 := arr_lt (show h0.arr id 0 = _ from a0)
    have w1 : IntKind.i64.wrap 1 = 1 := by decide
    simp [w1, k0, k1, k5, k6]
    refine ⟨0, by omega, by simp [k0], by simp [k1], F3.limlen lY, 1, [[eI (M.tmod 3), eI ((IntKind.i64.wrap (M.tdiv 3)).tmod 3), eI ((IntKind.i64.wrap (M.tdiv 9)).tmod 4), eI ((IntKind.i64.wrap (M.tdiv 36)).tmod 3), eI (M.tmod 7), eI 0]], [.agg [iN (M.tmod 3), iN ((IntKind.i64.wrap (M.tdiv 3)).tmod 3), iN ((IntKind.i64.wrap (M.tdiv 9)).tmod 4), iN ((IntKind.i64.wrap (M.tdiv 36)).tmod 3), iN (M.tmod 7), iN 0]], fp3, rfl, by have := F3.len; have := FY.len; omega, by omega, by simp, F3.arr (FY.arr a1 (by simp)) fun z => by have := nfp _ z; omega, by simpa using O3, fun y hy => ?_, ⟨⟨_, rfl, .plain 7, .plain 7, .plain 7, .plain 7, .plain 7, .plain 7, trivial⟩, trivial⟩, fun _ => ⟨_, rfl, rfl⟩, by omega⟩
    rcases G3 y hy with z | z
    · exact nfp y z
    · have := hlen; have := FY.len; omega
  · simp [g0, g1, g6]
    obtain ⟨c, hc, rfl⟩ := hp rfl
    obtain ⟨w, os', e, hw, S⟩ := share_any (os := h1.objs) (lim := h1.lim) (own_shows (P := fun _ => True) (n := 7) O (fun _ _ => trivial) A)
    simp [EndsS, shareVs, e]
    rcases hw with rfl | rfl
    · exact ⟨c, hc, .inl rfl⟩
    · exact ⟨c, hc, .inr rfl⟩
end Dk.C
