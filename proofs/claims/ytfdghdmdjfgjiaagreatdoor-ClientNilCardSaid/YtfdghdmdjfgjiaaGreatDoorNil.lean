/- Of no client nothing comes. -/
import Derived.Test.YtfdghdmdjfgjiaaGreatDoorCall
set_option linter.unusedVariables false
set_option linter.unusedSimpArgs false
set_option linter.unusedSectionVars false
namespace Dk.C
open Go Dk

theorem under_ps (n : Nat) : ∀ cs : List PD, EV.unders n (cs.map EV.p) = true
  | [] => rfl
  | c :: r => by simp [EV.unders, EV.under, under_ps n r]
theorem call_ok {K N : Int} (hK : -9223372036854775808 ≤ K ∧ K < 9223372036854775808) (hN : -9223372036854775808 ≤ N ∧ N < 9223372036854775808) (xs : List Int) {h : Hp} (hh : h.lim ≤ h.objs.length) : ∃ v, (∃ cs : List PD, cs.length = 10 ∧ v = .agg (cs.map EV.p)) ∧ C0 n_call [.agg [eI K, eI N, .p (.list (xs.map iN))]] h = some (v, h) := by
  refine call_locX noExt_mono (f := n_call) rfl rfl (fun v ⟨cs, _, e⟩ => by subst e; rw [EV.under]; exact under_ps _ cs) fun h0 e0 el => ?_
  have l0 : h0.lim ≤ h0.objs.length := by omega
  obtain ⟨r8, a1, a2, e8⟩ := rest_ok K 8 hK (by omega) (by omega)
  obtain ⟨r6, b1, b2, e6⟩ := rest_ok N 6 hN (by omega) (by omega)
  obtain ⟨r4, c1, c2, e4⟩ := rest_ok N 4 hN (by omega) (by omega)
  obtain ⟨r3, d1, d2, e3⟩ := rest_ok N 3 hN (by omega) (by omega)
  simp [ones]
  obtain ⟨X, eX⟩ : ∃ X, X = (h0.new (.cells ⟨0, 3, true, 0, [[eI K, eI N, .p (.list (xs.map iN))]]⟩)).new (.cells ⟨0, 10, true, 0, [[eI 0, eI 0, eI 0, eI 0, eI 0, eI 0, eI 0, .p (.str (bs [])), eI 0, eI 0]]⟩) := ⟨_, rfl⟩
  have xa : X.arr h0.objs.length 0 = some ⟨0, 3, true, 0, [[eI K, eI N, .p (.list (xs.map iN))]]⟩ := by rw [eX]; simp
  have xr : X.arr (h0.objs.length + 1) 0 = some ⟨0, 10, true, 0, [[eI 0, eI 0, eI 0, eI 0, eI 0, eI 0, eI 0, .p (.str (bs [])), eI 0, eI 0]]⟩ := by rw [eX]; simp
  have lX : X.lim = h0.lim := by rw [eX]; rfl
  have nX : X.objs.length = h0.objs.length + 2 := by rw [eX]; simp
  rw [← eX]
  clear eX
  have la := arr_lt xa
  have lr := arr_lt xr
  have lX' : X.lim ≤ X.objs.length := by omega
  have lR : X.lim ≤ h0.objs.length + 1 := by omega
  refine PutA_eq (e8 X) ?_
  have r8c : r8 = 3 ∨ r8 = 4 ∨ r8 = 5 ∨ r8 = 6 ∨ r8 = 7 ∨ (r8 ≠ 3 ∧ r8 ≠ 4 ∧ r8 ≠ 5 ∧ r8 ≠ 6 ∧ r8 ≠ 7) := by omega
  rcases r8c with rfl | rfl | rfl | rfl | rfl | ⟨g3, g4, g5, g6, g7⟩
  · obtain ⟨q, ok, em⟩ := made_ok xs lX'
    obtain ⟨s, hs, ep⟩ := print_ok ok lX'
    simp [xa, nl la]
    refine PutA_eq em ?_
    simp
    refine PutA_eq ep ?_
    simp [xa, nl la]
    refine PutA_eq (e6 X) ?_
    by_cases h6 : r6 = 0
    · have b1 : s.size + (bs [32, 98, 121]).size < 4294967296 := by rw [bs_size]; simp; omega
      simp [h6, xr, nl lr, ones, lR, Ends, bin_sadd _ b1]
      exact ⟨[_, _, _, _, _, _, _, _, _, _], rfl, rfl⟩
    · simp [h6, xr, nl lr, ones, lR, Ends]
      exact ⟨[_, _, _, _, _, _, _, _, _, _], rfl, rfl⟩
  · simp [xa, nl la, xr, nl lr, ones, lR, Ends]
    exact ⟨[_, _, _, _, _, _, _, _, _, _], rfl, rfl⟩
  · simp [xa, nl la, xr, nl lr]
    refine PutC_of (K := fun v hh => v = eI r4 ∧ hh = X) ⟨_, _, e4 X, rfl, rfl⟩ ?_
    rintro _ hz ⟨rfl, e⟩
    have e := e.symm
    subst e
    have eqs : ∀ x : PD, EV.eqb (.p x) (.p x) = true := fun x => by simp [EV.eqb]
    simp [xa, nl la, xr, nl lr, ones, lR, Ends, eqs]
    exact ⟨[_, _, _, _, _, _, _, _, _, _], rfl, rfl⟩
  · simp [xa, nl la, xr, nl lr]
    refine PutA_eq (e3 X) ?_
    by_cases h3 : r3 = 0
    · simp [h3, xr, nl lr, ones, lR, Ends]
      exact ⟨[_, _, _, _, _, _, _, _, _, _], rfl, rfl⟩
    · simp [h3, xr, nl lr, ones, lR, Ends]
      exact ⟨[_, _, _, _, _, _, _, _, _, _], rfl, rfl⟩
  · simp [xa, nl la, xr, nl lr, ones, lR, Ends]
    exact ⟨[_, _, _, _, _, _, _, _, _, _], rfl, rfl⟩
  · simp [xa, nl la, xr, nl lr, ones, g3, g4, g5, g6, g7]
    obtain ⟨Y, eY⟩ : ∃ Y, Y = X.new (.cells ⟨0, 1, false, 0, [[eI N]]⟩) := ⟨_, rfl⟩
    have FY : Fwd [] X Y := by rw [eY]; exact (Fwd.refl _ _).new _
    have y0 : Y.arr X.objs.length 0 = some ⟨0, 1, false, 0, [[eI N]]⟩ := by rw [eY]; simp
    rw [← eY]
    clear eY
    obtain ⟨v, ⟨c, hc, hv⟩, ev⟩ := events_ok y0 (FY.limlen lX')
    refine PutA_eq ev ?_
    have yr := FY.arr xr (by simp)
    have lyr := arr_lt yr
    have lYR : Y.lim ≤ h0.objs.length + 1 := by rw [FY.lim]; exact lR
    obtain ⟨c0, c1, c2, c3, c4, c5, rfl⟩ : ∃ c0 c1 c2 c3 c4 c5, c = [c0, c1, c2, c3, c4, c5] := by
      match c, hc with
      | [c0, c1, c2, c3, c4, c5], _ => exact ⟨_, _, _, _, _, _, rfl⟩
    rcases hv with rfl | rfl
    · simp [yr, nl lyr, ones, lYR, Ends, indexAddr, sized, idx, loadAt, mk, PD.cells, EV.cells]
      exact ⟨[_, _, _, _, _, _, _, _, _, _], rfl, rfl⟩
    · simp [yr, nl lyr, ones, lYR, Ends, indexAddr, sized, idx, loadAt, mk, PD.cells, EV.cells]
      exact ⟨[_, _, _, _, _, _, _, _, _, _], rfl, rfl⟩
theorem new_nil (v : EV) (cs : List PD) (hc : cs.length = 10) (h : Hp) (hv : v = .agg (cs.map EV.p)) : WA (C0 n_client_New [.nilp, v] h) fun w h' => w = .nilp ∧ Fwd [] h h' := by
  subst hv
  refine call_W noExt_mono (f := n_client_New) rfl rfl ?_
  obtain ⟨c0, c1, c2, c3, c4, c5, c6, c7, c8, c9, rfl⟩ : ∃ c0 c1 c2 c3 c4 c5 c6 c7 c8 c9, cs = [c0, c1, c2, c3, c4, c5, c6, c7, c8, c9] := by
    match cs, hc with
    | [c0, c1, c2, c3, c4, c5, c6, c7, c8, c9], _ => exact ⟨_, _, _, _, _, _, _, _, _, _, rfl⟩
  simp [ones, Ends]
  exact (Fwd.refl _ _).new _
theorem done_nil (h : Hp) : WA (C0 n_client_Client_Done [.nilp] h) fun w h' => w = eB true ∧ h' = h := by
  refine call_W noExt_mono (f := n_client_Client_Done) rfl rfl ?_
  simp [Ends]
theorem step_nil (h : Hp) : WA (C0 n_client_Client_Step [.nilp] h) fun w h' => w = eB false ∧ h' = h := by
  refine call_W noExt_mono (f := n_client_Client_Step) rfl rfl ?_
  simp
  refine PutA_of (done_nil h) ?_
  rintro _ h' ⟨rfl, e⟩
  have e := e.symm
  subst e
  simp [Ends]
theorem answer_nil (h : Hp) (hl : h.lim ≤ h.objs.length) : WA (C0 n_client_Client_Answer [.nilp] h) fun w h' => w = .agg [eI 1, eI 0, .full []] ∧ Fwd [] h h' := by
  refine call_W noExt_mono (f := n_client_Client_Answer) rfl rfl ?_
  simp [ones, hl, Ends]
  exact ((Fwd.refl _ _).new _).set _ (.inr (by simp))
theorem stamp_nil (h : Hp) : WA (C0 n_client_Client_Stamp [.nilp] h) fun w h' => w = eI (-1) ∧ h' = h := by
  refine call_W noExt_mono (f := n_client_Client_Stamp) rfl rfl ?_
  simp [Ends]
theorem clientNil_ok {K N : Int} (hK : -9223372036854775808 ≤ K ∧ K < 9223372036854775808) (hN : -9223372036854775808 ≤ N ∧ N < 9223372036854775808) (xs : List Int) : C0 n_ClientNil [.agg [eI K, eI N, .p (.list (xs.map iN))]] ⟨[], 0⟩ = some (eB true, ⟨[], 0⟩) := by
  refine call_loc noExt_mono (f := n_ClientNil) rfl rfl rfl fun h0 e0 el => ?_
  simp [ones]
  obtain ⟨X, eX⟩ : ∃ X, X = h0.new (.cells ⟨0, 3, true, 0, [[eI K, eI N, .p (.list (xs.map iN))]]⟩) := ⟨_, rfl⟩
  have xa : X.arr h0.objs.length 0 = some ⟨0, 3, true, 0, [[eI K, eI N, .p (.list (xs.map iN))]]⟩ := by rw [eX]; simp
  have lX : X.lim ≤ X.objs.length := by rw [eX]; simp; omega
  rw [← eX]
  clear eX
  refine PutA_eq (awake_ok lX) ?_
  simp [xa, nl (arr_lt xa)]
  obtain ⟨v, ⟨cs, hc, hv⟩, ev⟩ := call_ok hK hN xs lX
  refine PutA_eq ev ?_
  simp
  refine PutA_of (new_nil v cs hc X hv) ?_
  rintro _ h1 ⟨rfl, F1⟩
  simp
  refine PutA_of (step_nil h1) ?_
  rintro _ h' ⟨rfl, e⟩
  have e := e.symm
  subst e
  simp
  refine PutA_of (done_nil h1) ?_
  rintro _ h' ⟨rfl, e⟩
  have e := e.symm
  subst e
  simp
  refine PutA_of (answer_nil h1 (F1.limlen lX)) ?_
  rintro _ h2 ⟨rfl, F2⟩
  simp
  refine PutA_of (stamp_nil h2) ?_
  rintro _ h' ⟨rfl, e⟩
  have e := e.symm
  subst e
  simp [Ends]
theorem ints_pt {xs : List PD} (hx : ∀ e ∈ xs, (if false = true then ∃ cs, e = .agg cs ∧ PTs [.int .i64] cs else PTs [.int .i64] [e])) : ∃ l : List Int, xs = l.map iN := by
  induction xs with
  | nil => exact ⟨[], rfl⟩
  | cons x xs ih =>
    obtain ⟨l, rfl⟩ := ih fun e he => hx e (by simp [he])
    have := hx x (by simp)
    simp only [Bool.false_eq_true, if_false, PTs, PT] at this
    obtain ⟨_, _, e, ⟨n, rfl, _⟩, rfl⟩ := this
    cases e
    exact ⟨n :: l, rfl⟩
theorem clientNil_D : ∀ xss, Typed [([.int .i64, .int .i64, .slice [.int .i64] false], true)] xss → C0 n_ClientNil (argsEV [([.int .i64, .int .i64, .slice [.int .i64] false], true)] xss) ⟨[], 0⟩ = some (eB true, ⟨[], 0⟩) := by
  intro xss h
  simp only [Typed, PTs] at h
  obtain ⟨_, _, rfl, ⟨_, _, rfl, ha, _, _, rfl, hb, _, _, rfl, hc, rfl⟩, rfl⟩ := h
  simp only [PT] at ha hb hc
  obtain ⟨a, rfl, ha⟩ := ha
  obtain ⟨b, rfl, hb⟩ := hb
  obtain ⟨xs, rfl, -, hx⟩ := hc
  obtain ⟨l, rfl⟩ := ints_pt hx
  have e1 : IntKind.i64.min = -9223372036854775808 := by decide
  have e2 : IntKind.i64.max = 9223372036854775807 := by decide
  rw [e1, e2] at ha hb
  exact clientNil_ok ⟨ha.1, by omega⟩ ⟨hb.1, by omega⟩ l
end Dk.C
