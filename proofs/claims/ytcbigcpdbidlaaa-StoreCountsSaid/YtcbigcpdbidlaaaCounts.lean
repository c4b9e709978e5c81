/- StoreCounts. -/
import Derived.Test.YtcbigcpdbidlaaaAwake
set_option linter.unusedVariables false
set_option linter.unusedSimpArgs false
namespace Dk.A
open Go Dk

def cntS (c : Int) : Sto := ⟨[⟨0, true, ⟨2, 0, 0, 0, 0, 0⟩, c⟩, ⟨0, true, ⟨5, 0, 0, 0, 0, 0⟩, 1⟩], 2, if 0 < c then 2 else 1⟩

theorem cnt_at (c : Int) : (cntS c).at ⟨0, 0⟩ = some (0, ⟨0, true, ⟨2, 0, 0, 0, 0, 0⟩, c⟩) := by simp [Sto.at, cntS]
theorem cnt_at1 (c : Int) : (cntS c).at ⟨1, 0⟩ = some (1, ⟨0, true, ⟨5, 0, 0, 0, 0, 0⟩, 1⟩) := by simp [Sto.at, cntS]

theorem cnt_add {c n : Int} (hc : 0 ≤ c) (hc1 : c ≤ 1000) (hn : -4 ≤ n ∧ n ≤ 4) : (cntS c).add ⟨0, 0⟩ n = if 0 < c ∧ 0 ≤ c + n then (c + n, true, cntS (c + n)) else (0, false, cntS c) := by
  have e1 : w64 (-c) = -c := w64_eq (by omega) (by omega)
  have e2 : w64 (1099511627776 - c) = 1099511627776 - c := w64_eq (by omega) (by omega)
  have e3 : w64 (c + n) = c + n := w64_eq (by omega) (by omega)
  simp only [Sto.add, cnt_at]
  by_cases h : 0 < c ∧ 0 ≤ c + n
  · rw [if_pos h]
    have h1 : ¬ (c = 0 ∨ n < w64 (0 - c) ∨ w64 (1099511627776 - c) < n) := by
      have : (0 : Int) - c = -c := by omega
      rw [this, e1, e2]; omega
    rw [if_neg h1]
    simp only [e3]
    have hl : w64 ((if 0 < c then 2 else 1 : Int) - 1) = 1 := by rw [if_pos h.1]; rfl
    simp only [cntS, hl, List.set_cons_zero]
    by_cases hz : c + n = 0
    · simp [hz]
    · have h1 : 0 < c + n := by omega
      simp [hz, h1, h.1]
  · rw [if_neg h]
    have h1 : c = 0 ∨ n < w64 (0 - c) ∨ w64 (1099511627776 - c) < n := by
      have : (0 : Int) - c = -c := by omega
      rw [this, e1, e2]; omega
    rw [if_pos h1]

theorem cnt_count (c : Int) : (cntS c).count ⟨0, 0⟩ = c ∧ (cntS c).count ⟨1, 0⟩ = 1 := by simp [Sto.count, cnt_at, cnt_at1]
theorem cnt_freed {c : Int} (h : 0 < c) : (cntS c).freed ⟨0, 0⟩ = (false, cntS c) := by simp [Sto.freed, cnt_at, h]

theorem storeCounts_ok (xs : List PD) (hx : ∀ x ∈ xs, ∃ n, x = .int .i64 n) (hl : xs.length ≤ maxLen) (h : Hp) : C0 n_StoreCounts [.p (.list xs)] h = some (eB true, h) := by
  refine call_loc noExt_mono (f := n_StoreCounts) rfl rfl rfl fun h0 e0 el => ?_
  have aw := awake_ok h0
  unfold C0 at aw
  simp [aw]
  refine PutA_of (new_ok 2 h0 (by omega) (by omega)) ?_
  rintro v h1 ⟨rfl, H1, F1⟩
  have l1 := F1.limlen (by omega)
  simp
  refine PutA_of (take_ok H1 (by simp [Sto.new]) ⟨2, 0, 0, 0, 0, 0⟩) ?_
  rintro v h2 ⟨rfl, H2, F2⟩
  have l2 := F2.limlen l1
  have t2 : (Sto.new 2).take ⟨2, 0, 0, 0, 0, 0⟩ = (⟨0, 0⟩, true, ⟨[⟨0, true, ⟨2, 0, 0, 0, 0, 0⟩, 1⟩, ⟨0, false, ⟨0, 0, 0, 0, 0, 0⟩, 0⟩], 1, 1⟩) := rfl
  rw [t2] at H2 ⊢
  simp [Ref.cells, l2]
  have a2 := arr_lt H2.top
  have b2 := arr_lt H2.sl
  refine PutA_of (take_ok (H2.fwd (ids := []) (by repeat first | exact Fwd.refl _ _ | refine Fwd.set ?_ _ (by simp) | refine Fwd.new ?_ _) (by simp) (by simp)) (by simp) ⟨5, 0, 0, 0, 0, 0⟩) ?_
  rintro v h3 ⟨rfl, H3, F3⟩
  have l3 := F3.limlen (by simp; omega)
  have B3 := F3.arr (id := h2.objs.length) (g := 0) (ar := ⟨0, 2, true, 0, [[eI 0, eI 0]]⟩) (by simp) (by simp [nl a2, nl b2])
  have t3 : Sto.take ⟨[⟨0, true, ⟨2, 0, 0, 0, 0, 0⟩, 1⟩, ⟨0, false, ⟨0, 0, 0, 0, 0, 0⟩, 0⟩], 1, 1⟩ ⟨5, 0, 0, 0, 0, 0⟩ = (⟨1, 0⟩, true, cntS 1) := rfl
  rw [t3] at H3 ⊢
  have c3 := arr_lt B3
  have a3 := arr_lt H3.top
  have b3 := arr_lt H3.sl
  simp [Ref.cells, l3]
  generalize hh : (h3.new (.cells ⟨0, 2, true, 0, [[eI 0, eI 0]]⟩)).setArr h3.objs.length ⟨0, 2, true, 0, [[eI 1, eI 0]]⟩ = h4
  have F4 : Fwd [] h3 h4 := by subst hh; exact ((Fwd.refl _ _).new _).set _ (by simp)
  have B4 := F4.arr B3 (by simp)
  have D4 : h4.arr h3.objs.length 0 = some ⟨0, 2, true, 0, [[eI 1, eI 0]]⟩ := by subst hh; simp
  have H4 := H3.fwd F4 (by simp) (by simp)
  have l4 := F4.limlen l3
  clear hh
  have r9 : ∀ (x : Int) (h : Hp), call prog noExt n_rest [eI x, eI 9] h = some (eI (x % 9), h) := fun x h => rest_ok x 9 h (by omega)
  refine Run_loop (fun m fr h' => ∃ (i : Nat) (c : Int), i ≤ 20 ∧ m = 20 - i ∧ 0 ≤ c ∧ c ≤ 1 + 4 * i ∧ fr.get 0 = .p (.list xs) ∧ fr.get 3 = eB true ∧ fr.get 4 = .ptr (h0.objs.length + 1) 0 0 0 ∧ fr.get 5 = .ptr h2.objs.length 0 0 0 ∧ fr.get 6 = eB true ∧ fr.get 7 = .ptr h3.objs.length 0 0 0 ∧ fr.get 8 = eB true ∧ fr.get 9 = eI c ∧ fr.get 10 = eI i ∧
    StoAt h' (h0.objs.length + 1) h0.objs.length (cntS c) ∧ h'.arr h2.objs.length 0 = some ⟨0, 2, true, 0, [[eI 0, eI 0]]⟩ ∧ h'.arr h3.objs.length 0 = some ⟨0, 2, true, 0, [[eI 1, eI 0]]⟩ ∧ h'.lim ≤ h'.objs.length) (n := 20) ?_ ?_
  · exact ⟨0, 1, by omega, by omega, by omega, by omega, by simp, by simp, by simp, by simp, by simp, by simp, by simp, by simp, by simp, H4, B4, D4, l4⟩
  · rintro m fr h' ⟨i, c, hi, rfl, hc, hc1, g0, g3, g4, g5, g6, g7, g8, g9, g10, H, B, D, l⟩
    simp [g0, g3, g4, g5, g6, g7, g8, g9, g10]
    by_cases hlt : i < xs.length
    · by_cases hi2 : i < 20
      · have hi3 : (i : Int) < 20 := by omega
        obtain ⟨x, hx1⟩ : ∃ x, xs[i]? = some (.int .i64 x) := by
          obtain ⟨n, hn⟩ := hx _ (List.getElem_mem hlt)
          exact ⟨n, by rw [List.getElem?_eq_getElem hlt, hn]⟩
        have hx2 : xs[i] = .int .i64 x := (List.getElem?_eq_some_iff.1 hx1).2
        have e1 : IntKind.i64.wrap (x % 9 - 4) = x % 9 - 4 := wrap64 (by omega) (by omega)
        simp [hlt, hi3, hx1, hx2, r9, e1, B]
        refine PutA_of (add_ok H ⟨0, 0⟩ (x % 9 - 4)) ?_
        rintro v h5 ⟨rfl, H5, F5⟩
        have l5 := F5.limlen l
        have B5 := F5.arr B (by simp [nl a2, nl b2])
        have D5 := F5.arr D (by simp [nl a3, nl b3])
        have hi4 : IntKind.i64.wrap ((i : Int) + 1) = ((i + 1 : Nat) : Int) := by rw [wrap64 (by omega) (by omega)]; omega
        by_cases hm : 0 < c ∧ 0 ≤ c + (x % 9 - 4)
        · have ca := cnt_add hc (by omega) (show -4 ≤ x % 9 - 4 ∧ x % 9 - 4 ≤ 4 by omega)
          rw [if_pos hm] at ca
          rw [ca] at H5 ⊢
          have k1 := count_ok H5.toStoRd ⟨0, 0⟩
          have k2 := count_ok H5.toStoRd ⟨1, 0⟩
          have k3 := used_ok H5.toStoRd
          simp only [Ref.cells, C0, (cnt_count _).1, (cnt_count _).2] at k1 k2 k3
          have k4 : (cntS (c + (x % 9 - 4))).used = 2 := rfl
          rw [k4] at k3
          have e2 : IntKind.i64.wrap (c + (x % 9 - 4)) = c + (x % 9 - 4) := wrap64 (by omega) (by omega)
          simp [hm, e2, B5, D5, k1, k2, k3]
          by_cases hz : 0 < c + (x % 9 - 4)
          · simp [hz, B5]
            refine PutA_of (free_ok H5 ⟨0, 0⟩) ?_
            rintro v h6 ⟨rfl, H6, F6⟩
            have B6 := F6.arr B5 (by simp [nl a2, nl b2])
            have D6 := F6.arr D5 (by simp [nl a3, nl b3])
            rw [cnt_freed hz] at H6 ⊢
            simp [hi4]
            exact ⟨20 - (i + 1), by omega, i + 1, by omega, rfl, c + (x % 9 - 4), by omega, by omega, rfl, by omega, H6, B6, D6, F6.limlen l5⟩
          · simp [hz, hi4]
            exact ⟨20 - (i + 1), by omega, i + 1, by omega, rfl, c + (x % 9 - 4), by omega, by omega, rfl, by omega, H5, B5, D5, l5⟩
        · have ca := cnt_add hc (by omega) (show -4 ≤ x % 9 - 4 ∧ x % 9 - 4 ≤ 4 by omega)
          rw [if_neg hm] at ca
          rw [ca] at H5 ⊢
          have k1 := count_ok H5.toStoRd ⟨0, 0⟩
          have k2 := count_ok H5.toStoRd ⟨1, 0⟩
          have k3 := used_ok H5.toStoRd
          simp only [Ref.cells, C0, (cnt_count _).1, (cnt_count _).2] at k1 k2 k3
          have k4 : (cntS c).used = 2 := rfl
          rw [k4] at k3
          have e2 : IntKind.i64.wrap (c + (x % 9 - 4)) = c + (x % 9 - 4) := wrap64 (by omega) (by omega)
          by_cases hz : 0 < c
          · have hz2 : ¬ 0 ≤ c + (x % 9 - 4) := fun q => hm ⟨hz, q⟩
            simp [hz, hz2, e2, B5, D5, k1, k2, k3]
            refine PutA_of (free_ok H5 ⟨0, 0⟩) ?_
            rintro v h6 ⟨rfl, H6, F6⟩
            have B6 := F6.arr B5 (by simp [nl a2, nl b2])
            have D6 := F6.arr D5 (by simp [nl a3, nl b3])
            rw [cnt_freed hz] at H6 ⊢
            simp [hi4]
            exact ⟨20 - (i + 1), by omega, i + 1, by omega, rfl, c, by omega, by omega, rfl, by omega, H6, B6, D6, F6.limlen l5⟩
          · simp [hz, e2, B5, D5, k1, k2, k3, hi4]
            exact ⟨20 - (i + 1), by omega, i + 1, by omega, rfl, c, by omega, by omega, rfl, by omega, H5, l5⟩
      · have hi3 : ¬ (i : Int) < 20 := by omega
        have k5 := live_ok H.toStoRd
        unfold C0 at k5
        by_cases hz : 0 < c
        · have : (cntS c).live = 2 := if_pos hz
          rw [this] at k5
          simp [hlt, hi3, hz, k5, Ends]
        · have : (cntS c).live = 1 := if_neg hz
          rw [this] at k5
          simp [hlt, hi3, hz, k5, Ends]
    · have k5 := live_ok H.toStoRd
      unfold C0 at k5
      by_cases hz : 0 < c
      · have : (cntS c).live = 2 := if_pos hz
        rw [this] at k5
        simp [hlt, hz, k5, Ends]
      · have : (cntS c).live = 1 := if_neg hz
        rw [this] at k5
        simp [hlt, hz, k5, Ends]

theorem storeCounts_D : ∀ xss, Typed [([.slice [.int .i64] false], false)] xss → C0 n_StoreCounts (argsEV [([.slice [.int .i64] false], false)] xss) ⟨[], 0⟩ = some (eB true, ⟨[], 0⟩) := by
  intro xss h
  simp only [Typed, PTs, PT] at h
  obtain ⟨_, _, rfl, ⟨_, _, rfl, ⟨xs, rfl, hl, hx⟩, rfl⟩, rfl⟩ := h
  refine storeCounts_ok xs (fun x hm => ?_) hl _
  obtain ⟨_, _, e, ⟨n, rfl, _⟩, rfl⟩ := by simpa only [Bool.false_eq_true, if_false] using hx x hm
  cases e
  exact ⟨n, rfl⟩
end Dk.A
