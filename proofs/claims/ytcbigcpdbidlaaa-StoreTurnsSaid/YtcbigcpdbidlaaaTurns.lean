/- StoreTurns. -/
import Derived.Test.YtcbigcpdbidlaaaAwake
set_option linter.unusedVariables false
set_option linter.unusedSimpArgs false
namespace Dk.A
open Go Dk

def turS (i : Nat) (c : Int) : Sto := ⟨[⟨i, true, ⟨0, i, 0, 0, 0, 0⟩, c⟩], 1, if 0 < c then 1 else 0⟩
def empS (i : Nat) : Sto := ⟨[⟨i, false, Evt.zero, 0⟩], 0, 0⟩

theorem tur_at (i : Nat) (c : Int) : (turS i c).at ⟨0, i⟩ = some (0, ⟨i, true, ⟨0, i, 0, 0, 0, 0⟩, c⟩) := by simp [Sto.at, turS]
theorem emp_take (i : Nat) : (empS i).take ⟨0, i, 0, 0, 0, 0⟩ = (⟨0, i⟩, true, turS i 1) := by
  have e1 : w64 1 = 1 := rfl
  simp [Sto.take, Sto.free, empS, turS, e1]
theorem tur_add {i : Nat} {c n : Int} (hc : 0 < c) (hc1 : c ≤ 1000) (hn : -10 ≤ n ∧ n ≤ 10) (hcn : 0 ≤ c + n) : (turS i c).add ⟨0, i⟩ n = (c + n, true, turS i (c + n)) := by
  have e1 : w64 (-c) = -c := w64_eq (by omega) (by omega)
  have e2 : w64 (1099511627776 - c) = 1099511627776 - c := w64_eq (by omega) (by omega)
  have e3 : w64 (c + n) = c + n := w64_eq (by omega) (by omega)
  simp only [Sto.add, tur_at]
  have h1 : ¬ (c = 0 ∨ n < w64 (0 - c) ∨ w64 (1099511627776 - c) < n) := by
    have : (0 : Int) - c = -c := by omega
    rw [this, e1, e2]; omega
  rw [if_neg h1]
  have e4 : w64 (1 - 1) = 0 := rfl
  simp only [e3, turS, if_pos hc, e4, List.set_cons_zero]
  by_cases hz : c + n = 0
  · simp [hz]
  · have h1 : 0 < c + n := by omega
    simp [hz, h1]
theorem tur_busy {i : Nat} {c : Int} (h : 0 < c) : (turS i c).freed ⟨0, i⟩ = (false, turS i c) := by simp [Sto.freed, tur_at, h]
theorem tur_free {i : Nat} (hi : i ≤ 1000) : (turS i 0).freed ⟨0, i⟩ = (true, empS (i + 1)) := by
  have e1 : w64 ((i : Int) + 1) = i + 1 := w64_eq (by omega) (by omega)
  have e4 : w64 0 = 0 := rfl
  simp [Sto.freed, tur_at, e1, empS]
  simp [turS, e4]
theorem tur_get (i : Nat) (c : Int) : (turS i c).get ⟨0, i⟩ = (⟨0, i, 0, 0, 0, 0⟩, true) := by simp [Sto.get, tur_at]
theorem emp_get (i : Nat) (g : Int) : (empS i).get ⟨0, g⟩ = (Evt.zero, false) := by simp [Sto.get, Sto.at, empS]

theorem storeTurns_ok (a : Int) (xs : List PD) (hx : ∀ x ∈ xs, ∃ n, x = .int .i64 n) (h : Hp) : C0 n_StoreTurns [eI a, .p (.list xs)] h = some (eB true, h) := by
  refine call_loc noExt_mono (f := n_StoreTurns) rfl rfl rfl fun h0 e0 el => ?_
  have aw := awake_ok h0
  unfold C0 at aw
  simp [aw]
  refine PutA_of (new_ok 1 h0 (by omega) (by omega)) ?_
  rintro v h1 ⟨rfl, H1, F1⟩
  have l1 := F1.limlen (by omega)
  obtain ⟨n, hn, hn1⟩ : ∃ n : Nat, a % 41 = n ∧ n ≤ 40 := ⟨(a % 41).toNat, by omega, by omega⟩
  have r41 : ∀ (h : Hp), call prog noExt n_rest [eI a, eI 41] h = some (eI n, h) := fun h => by rw [← hn]; exact rest_ok a 41 h (by omega)
  have r5 : ∀ (x : Int) (h : Hp), call prog noExt n_rest [eI x, eI 5] h = some (eI (x % 5), h) := fun x h => rest_ok x 5 h (by omega)
  simp [r41]
  refine Run_loop (fun m fr h' => ∃ i : Nat, i ≤ n ∧ m = n - i ∧ fr.get 1 = .p (.list xs) ∧ fr.get 5 = eB true ∧ fr.get 6 = .ptr (h0.objs.length + 1) 0 0 0 ∧ fr.get 7 = eI n ∧ fr.get 8 = eI i ∧ StoAt h' (h0.objs.length + 1) h0.objs.length (empS i) ∧ h'.lim ≤ h'.objs.length) (n := n) ?_ ?_
  · exact ⟨0, by omega, by omega, by simp, by simp, by simp, by simp, by simp, H1, l1⟩
  · rintro m fr h' ⟨i, hi, rfl, g1, g5, g6, g7, g8, H, l⟩
    simp [g1, g5, g6, g7, g8]
    by_cases hlt : i < n
    · simp [hlt]
      refine PutA_of (take_ok H (by simp [empS]) ⟨0, i, 0, 0, 0, 0⟩) ?_
      rintro v h2 ⟨rfl, H2, F2⟩
      have l2 := F2.limlen l
      rw [emp_take] at H2 ⊢
      simp [Ref.cells, l2]
      generalize hh : (h2.new (.cells ⟨0, 2, true, 0, [[eI 0, eI 0]]⟩)).setArr h2.objs.length ⟨0, 2, true, 0, [[eI 0, eI i]]⟩ = h3
      have F3 : Fwd [] h2 h3 := by subst hh; exact ((Fwd.refl _ _).new _).set _ (by simp)
      have B3 : h3.arr h2.objs.length 0 = some ⟨0, 2, true, 0, [[eI 0, eI i]]⟩ := by subst hh; simp
      have a2 := arr_lt H2.top
      have b2 := arr_lt H2.sl
      have H3 := H2.fwd F3 (by simp) (by simp)
      have l3 := F3.limlen l2
      clear hh
      refine Br_join (J := fun f h' => ∃ k : Nat, 1 ≤ k ∧ k ≤ 5 ∧ f.get 1 = .p (.list xs) ∧ f.get 5 = eB true ∧ f.get 6 = .ptr (h0.objs.length + 1) 0 0 0 ∧ f.get 7 = eI n ∧ f.get 8 = eI i ∧ f.get 9 = .ptr h2.objs.length 0 0 0 ∧ f.get 11 = eI k ∧ h' = h3) ?_ ?_
      · by_cases hil : i < xs.length
        · obtain ⟨x, hx1⟩ : ∃ x, xs[i]? = some (.int .i64 x) := by
            obtain ⟨n, hn⟩ := hx _ (List.getElem_mem hil)
            exact ⟨n, by rw [List.getElem?_eq_getElem hil, hn]⟩
          have hx2 : xs[i] = .int .i64 x := (List.getElem?_eq_some_iff.1 hx1).2
          obtain ⟨k, hk, hk1⟩ : ∃ k : Nat, x % 5 = k ∧ k ≤ 4 := ⟨(x % 5).toNat, by omega, by omega⟩
          have e1 : IntKind.i64.wrap (1 + (k : Int)) = ((1 + k : Nat) : Int) := by rw [wrap64 (by omega) (by omega)]; omega
          simp [hil, hx1, hx2, r5, hk, e1]
          exact ⟨1 + k, by omega, by omega, by simp⟩
        · simp [hil]
          exact ⟨1, by omega, by omega, by simp⟩
      · rintro f _ ⟨k, hk1, hk5, j1, j5, j6, j7, j8, j9, j11, rfl⟩
        have e1 : IntKind.i64.wrap ((k : Int) - 1) = (k : Int) - 1 := wrap64 (by omega) (by omega)
        simp [j1, j5, j6, j7, j8, j9, j11, B3, e1]
        refine PutA_of (add_ok H3 ⟨0, i⟩ ((k : Int) - 1)) ?_
        rintro v h4 ⟨rfl, H4, F4⟩
        have l4 := F4.limlen l3
        have B4 := F4.arr B3 (by simp [nl a2, nl b2])
        rw [tur_add (by omega) (by omega) (by omega) (by omega), show (1 : Int) + (k - 1) = k by omega] at H4 ⊢
        simp [B4, j1, j5, j6, j7, j8, j9, j11]
        refine PutA_of (free_ok H4 ⟨0, i⟩) ?_
        rintro v h5 ⟨rfl, H5, F5⟩
        have l5 := F5.limlen l4
        have B5 := F5.arr B4 (by simp [nl a2, nl b2])
        rw [tur_busy (by omega)] at H5 ⊢
        simp [j1, j5, j6, j7, j8, j9, j11]
        refine Run_loop (fun m f h' => ∃ c : Nat, c ≤ k ∧ m = c ∧ f.get 1 = .p (.list xs) ∧ f.get 5 = eB true ∧ f.get 6 = .ptr (h0.objs.length + 1) 0 0 0 ∧ f.get 7 = eI n ∧ f.get 8 = eI i ∧ f.get 9 = .ptr h2.objs.length 0 0 0 ∧ f.get 11 = eI c ∧
          StoAt h' (h0.objs.length + 1) h0.objs.length (turS i c) ∧ h'.arr h2.objs.length 0 = some ⟨0, 2, true, 0, [[eI 0, eI i]]⟩ ∧ h'.lim ≤ h'.objs.length) (n := k) ?_ ?_
        · exact ⟨k, by omega, rfl, by simp [j1], by simp [j5], by simp [j6], by simp [j7], by simp [j8], by simp [j9], by simp [j11], H5, B5, l5⟩
        · rintro c f2 h6 ⟨_, hc, rfl, p1, p5, p6, p7, p8, p9, p11, H6, B6, l6⟩
          by_cases hc0 : 0 < c
          · have hc1 : (0 : Int) < c := by omega
            simp [p1, p5, p6, p7, p8, p9, p11, hc0, hc1, B6]
            refine PutA_of (add_ok H6 ⟨0, i⟩ (-1)) ?_
            rintro v h7 ⟨rfl, H7, F7⟩
            have l7 := F7.limlen l6
            have B7 := F7.arr B6 (by simp [nl a2, nl b2])
            rw [tur_add (by omega) (by omega) (by omega) (by omega), show (c : Int) + -1 = ((c - 1 : Nat) : Int) by omega] at H7 ⊢
            have e2 : IntKind.i64.wrap ((c : Int) - 1) = ((c - 1 : Nat) : Int) := by rw [wrap64 (by omega) (by omega)]; omega
            simp [e2]
            exact ⟨c - 1, by omega, c - 1, by omega, rfl, rfl, H7, B7, l7⟩
          · have : c = 0 := by omega
            subst this
            have g := get_ok H6.toStoRd ⟨0, i⟩
            simp only [Ref.cells, C0, tur_get, Evt.cells] at g
            simp [p1, p5, p6, p7, p8, p9, p11, B6, g, l6]
            have a6 := arr_lt H6.top
            have b6 := arr_lt H6.sl
            have c6 := arr_lt B6
            simp [nl c6, B6]
            refine PutA_of (free_ok (H6.fwd (ids := []) (by repeat first | exact Fwd.refl _ _ | refine Fwd.set ?_ _ (by simp) | refine Fwd.new ?_ _) (by simp) (by simp)) ⟨0, i⟩) ?_
            rintro v h7 ⟨rfl, H7, F7⟩
            have l7 := F7.limlen (by simp; omega)
            rw [show ((0 : Nat) : Int) = 0 from rfl, tur_free (by omega)] at H7 ⊢
            simp
            refine Run_loop (fun m f h' => ∃ g : Nat, g ≤ i + 1 ∧ m = i + 1 - g ∧ f.get 1 = .p (.list xs) ∧ f.get 5 = eB true ∧ f.get 6 = .ptr (h0.objs.length + 1) 0 0 0 ∧ f.get 7 = eI n ∧ f.get 8 = eI i ∧ f.get 18 = eI g ∧
              StoAt h' (h0.objs.length + 1) h0.objs.length (empS (i + 1)) ∧ h'.lim ≤ h'.objs.length) (n := i + 1) ?_ ?_
            · exact ⟨0, by omega, by omega, by simp, by simp, by simp, by simp, by simp, by simp, H7, l7⟩
            · rintro m f3 h8 ⟨g, hg, rfl, q1, q5, q6, q7, q8, q18, H8, l8⟩
              by_cases hgi : g ≤ i
              · have hgi2 : (g : Int) ≤ i := by omega
                have gg := get_ok H8.toStoRd ⟨0, g⟩
                simp only [Ref.cells, C0, emp_get, Evt.cells, Evt.zero] at gg
                have e2 : IntKind.i64.wrap ((g : Int) + 1) = ((g + 1 : Nat) : Int) := by rw [wrap64 (by omega) (by omega)]; omega
                simp [q1, q5, q6, q7, q8, q18, hgi, gg, l8, e2]
                exact ⟨i + 1 - (g + 1), by omega, g + 1, by omega, rfl, by omega, H8.fwd (ids := []) (by repeat first | exact Fwd.refl _ _ | refine Fwd.set ?_ _ (by simp) | refine Fwd.new ?_ _) (by simp) (by simp), by omega⟩
              · have e2 : IntKind.i64.wrap ((i : Int) + 1) = ((i + 1 : Nat) : Int) := by rw [wrap64 (by omega) (by omega)]; omega
                simp [q1, q5, q6, q7, q8, q18, hgi, e2]
                exact ⟨n - (i + 1), by omega, i + 1, by omega, rfl, by omega, H8, l8⟩
    · have : i = n := by omega
      subst this
      have k1 := used_ok H.toStoRd
      have k2 := live_ok H.toStoRd
      simp only [C0, empS] at k1 k2
      have z : IntKind.i64.wrap 0 = 0 := rfl
      simp [k1, k2, z, Ends]

theorem storeTurns_D : ∀ xss, Typed [([.int .i64], false), ([.slice [.int .i64] false], false)] xss → C0 n_StoreTurns (argsEV [([.int .i64], false), ([.slice [.int .i64] false], false)] xss) ⟨[], 0⟩ = some (eB true, ⟨[], 0⟩) := by
  intro xss h
  simp only [Typed, PTs, PT] at h
  obtain ⟨_, _, rfl, ⟨_, _, rfl, ⟨a, rfl, ha⟩, rfl⟩, ⟨_, _, rfl, ⟨_, _, rfl, ⟨xs, rfl, hl, hx⟩, rfl⟩, rfl⟩⟩ := h
  refine storeTurns_ok a xs (fun x hm => ?_) _
  obtain ⟨_, _, e, ⟨n, rfl, _⟩, rfl⟩ := by simpa only [Bool.false_eq_true, if_false] using hx x hm
  cases e
  exact ⟨n, rfl⟩

end Dk.A
