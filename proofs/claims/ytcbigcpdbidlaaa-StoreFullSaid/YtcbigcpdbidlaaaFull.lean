/- A part of the proof: D's calls, and what they come to. No condition. -/
import Derived.Test.YtcbigcpdbidlaaaAwake
set_option linter.unusedVariables false
set_option linter.unusedSimpArgs false
namespace Dk.A
open Go Dk

/-- So many slots, of which the first ones are taken. -/
def fullS (n i : Nat) : Sto := ⟨(List.range n).map fun j => if j < i then ⟨0, true, ⟨0, j, 0, 0, 0, 0⟩, 1⟩ else ⟨0, false, Evt.zero, 0⟩, i, i⟩

theorem full_zero (n : Nat) : Sto.new n = fullS n 0 := by
  simp [Sto.new, fullS, List.map_const']

theorem full_len (n i : Nat) : (fullS n i).slots.length = n := by simp [fullS]
theorem full_get (n i j : Nat) (hj : j < n) : (fullS n i).slots[j]? = some (if j < i then ⟨0, true, ⟨0, j, 0, 0, 0, 0⟩, 1⟩ else ⟨0, false, Evt.zero, 0⟩) := by
  simp [fullS, hj]

theorem full_free {n i : Nat} (h : i < n) : (fullS n i).free = i := by
  refine free_stop (x := ⟨0, false, Evt.zero, 0⟩) (fun j y hj hy => ?_) ?_ rfl
  · rw [full_get n i j (by omega), if_pos hj] at hy
    cases hy; rfl
  · rw [full_get n i i h, if_neg (by omega)]

theorem full_take {n i : Nat} (h : i < n) (hn : n ≤ 4096) : (fullS n i).take ⟨0, i, 0, 0, 0, 0⟩ = (⟨i, 0⟩, true, fullS n (i + 1)) := by
  have e1 : w64 ((i : Int) + 1) = ((i + 1 : Nat) : Int) := by rw [w64_eq (by omega) (by omega)]; simp
  simp only [Sto.take, full_free h, full_get n i i h, if_neg (Nat.lt_irrefl i)]
  congr 2
  simp only [fullS, e1]
  congr 1
  apply List.ext_getElem?
  intro j
  simp only [List.getElem?_set, List.length_map, List.length_range]
  by_cases hji : i = j
  · subst hji; simp [h]
  · simp only [hji, if_false]
    by_cases hj : j < n
    · have : (j < i + 1) ↔ (j < i) := by omega
      simp [hj, this]
    · simp [hj]

theorem full_stop (n : Nat) (s : Sto) (hs : ∀ y ∈ s.slots, y.used = true) (e : Evt) : s.take e = (⟨0, 0⟩, false, s) := by
  have hf : s.free = s.slots.length := free_all fun j y _ hy => hs y (List.mem_of_getElem? hy)
  simp [Sto.take, hf]

theorem full_at {n k : Nat} (h : k < n) : (fullS n n).at ⟨k, 0⟩ = some (k, ⟨0, true, ⟨0, k, 0, 0, 0, 0⟩, 1⟩) := by
  have := full_get n n k h
  simp [h] at this
  simp [Sto.at, this]
/-- Of full slots one is dead; free; taken anew. -/
def deadS (n k : Nat) : Sto := ⟨(fullS n n).slots.set k ⟨0, true, ⟨0, k, 0, 0, 0, 0⟩, 0⟩, n, w64 (n - 1)⟩
def openS (n k : Nat) : Sto := ⟨(fullS n n).slots.set k ⟨1, false, Evt.zero, 0⟩, w64 (n - 1), w64 (n - 1)⟩
theorem full_early {n k : Nat} (h : k < n) : (fullS n n).freed ⟨k, 0⟩ = (false, fullS n n) := by
  simp [Sto.freed, full_at h]
theorem full_add {n k : Nat} (h : k < n) : (fullS n n).add ⟨k, 0⟩ (-1) = (0, true, deadS n k) := by
  have e1 : w64 (-1) = -1 := by rfl
  have e2 : w64 1099511627775 = 1099511627775 := by rfl
  have e3 : w64 0 = 0 := by rfl
  simp [Sto.add, full_at h, e1, e2, e3, deadS]
  simp [fullS]
theorem all_used (n k : Nat) (x : Slot) (hx : x.used = true) : ∀ y ∈ (fullS n n).slots.set k x, y.used = true := by
  intro y hy
  rcases List.mem_or_eq_of_mem_set hy with hy | rfl
  · simp only [fullS, List.mem_map, List.mem_range] at hy
    obtain ⟨j, hj, rfl⟩ := hy
    simp [hj]
  · exact hx
theorem dead_free {n k : Nat} (h : k < n) : (deadS n k).freed ⟨k, 0⟩ = (true, openS n k) := by
  have : (deadS n k).at ⟨k, 0⟩ = some (k, ⟨0, true, ⟨0, k, 0, 0, 0, 0⟩, 0⟩) := by
    simp [Sto.at, deadS, full_len, h]
  have e1 : w64 1 = 1 := by rfl
  simp [Sto.freed, this, openS, e1]
  simp [deadS]
theorem open_take {n k : Nat} (h : k < n) (e : Evt) : ∃ s, (openS n k).take e = (⟨k, 1⟩, true, s) ∧ s.slots.length = n ∧ s.get ⟨k, 1⟩ = (e, true) := by
  have hf : (openS n k).free = k := by
    refine free_stop (x := ⟨1, false, Evt.zero, 0⟩) (fun j y hj hy => ?_) ?_ rfl
    · simp only [openS] at hy
      rw [List.getElem?_set_ne (by omega), full_get n n j (by omega), if_pos (by omega)] at hy
      cases hy; rfl
    · simp [openS, full_len, h]
  refine ⟨⟨(openS n k).slots.set k ⟨1, true, e, 1⟩, w64 ((openS n k).used + 1), w64 ((openS n k).live + 1)⟩, ?_, ?_, ?_⟩
  · have : (openS n k).slots[k]? = some ⟨1, false, Evt.zero, 0⟩ := by simp [openS, full_len, h]
    simp [Sto.take, hf, this]
  · simp [openS, full_len]
  · simp [Sto.get, Sto.at, openS, full_len, h]

theorem storeFull_ok (a b : Int) (h : Hp) : C0 n_StoreFull [eI a, eI b] h = some (eB true, h) := by
  refine call_loc noExt_mono (f := n_StoreFull) rfl rfl rfl fun h0 e0 el => ?_
  obtain ⟨n, hn, hn1⟩ : ∃ n : Nat, w64 (1 + a % 40) = n ∧ 1 ≤ n ∧ n ≤ 40 := ⟨(1 + a % 40).toNat, by rw [w64_eq (by omega) (by omega)]; omega, by omega, by omega⟩
  have r1 := rest_ok a 40 h0 (by omega)
  unfold C0 at r1
  have aw := awake_ok h0
  unfold C0 at aw
  simp [r1, aw]
  rw [show IntKind.i64.wrap (1 + a % 40) = n from hn]
  refine PutA_of (new_ok n h0 (by omega) (by omega)) ?_
  rintro v h1 ⟨rfl, H, F⟩
  have hl1 := F.limlen (by omega)
  simp
  refine Run_loop (fun m fr h' => ∃ i : Nat, i ≤ n ∧ m = n - i ∧ fr.get 8 = eI i ∧ fr.get 6 = eI n ∧ fr.get 1 = eI b ∧ fr.get 5 = eB true ∧ fr.get 7 = .ptr (h0.objs.length + 1) 0 0 0 ∧ StoAt h' (h0.objs.length + 1) h0.objs.length (fullS n i) ∧ h'.lim ≤ h'.objs.length) (n := n) ?_ ?_
  · exact ⟨0, by omega, by omega, by simp, by simp, by simp, by simp, by simp, by rw [← full_zero]; exact H, hl1⟩
  · rintro m fr h' ⟨i, hi, rfl, g8, g6, g1, g5, g7, H', hl'⟩
    simp [g8, g6, g1, g5, g7]
    by_cases hlt : i < n
    · simp [hlt]
      refine PutA_of (take_ok H' (by rw [full_len]; omega) ⟨0, i, 0, 0, 0, 0⟩) ?_
      rintro v h2 ⟨rfl, H2, F2⟩
      have hl2 := F2.limlen hl'
      rw [full_take hlt (by omega)] at H2 ⊢
      have a2 := arr_lt H2.top
      have b2 := arr_lt H2.sl
      simp [Ref.cells, hl2]
      refine PutA_eq (used_ok (H2.toStoRd.fwd (ids := []) (by repeat first | exact Fwd.refl _ _ | refine Fwd.set ?_ _ (by simp) | refine Fwd.new ?_ _) (by simp) (by simp))) ?_
      have e1 : w64 ((i : Int) + 1) = ((i + 1 : Nat) : Int) := by rw [w64_eq (by omega) (by omega)]; simp
      have e2 : IntKind.i64.wrap ((i : Int) + 1) = (i : Int) + 1 := by rw [show IntKind.i64.wrap ((i : Int) + 1) = _ from e1]; simp
      simp [fullS, e2]
      refine ⟨n - (i + 1), by omega, i + 1, by omega, rfl, by simp, H2.fwd (ids := []) (by repeat first | exact Fwd.refl _ _ | refine Fwd.set ?_ _ (by simp) | refine Fwd.new ?_ _) (by simp) (by simp), by omega⟩
    · have hin : i = n := by omega
      subst hin
      have hall : ∀ y ∈ (fullS i i).slots, y.used = true := by
        intro y hy
        simp only [fullS, List.mem_map, List.mem_range] at hy
        obtain ⟨j, hj, rfl⟩ := hy
        simp [hj]
      simp
      refine PutA_of (take_ok H' (by rw [full_len]; omega) ⟨0, 0, 0, 0, 0, 0⟩) ?_
      rintro v h2 ⟨rfl, H2, F2⟩
      have hl2 := F2.limlen hl'
      rw [full_stop i _ hall] at H2 ⊢
      have a2 := arr_lt H2.top
      have b2 := arr_lt H2.sl
      obtain ⟨k, hk, hkl⟩ : ∃ k : Nat, b % (i : Int) = k ∧ k < i := ⟨(b % (i : Int)).toNat, by have := Int.emod_nonneg b (show (i : Int) ≠ 0 by omega); omega, by have := Int.emod_nonneg b (show (i : Int) ≠ 0 by omega); have := Int.emod_lt_of_pos b (show (0 : Int) < i by omega); omega⟩
      have r2 : ∀ h, C0 n_rest [eI b, eI i] h = some (eI k, h) := fun h => by rw [rest_ok b i h (by omega), hk]
      unfold C0 at r2
      simp [Ref.cells, hl2, r2]
      have hs : h2.lim ≤ h2.objs.length + 1 := by omega
      simp [hs]
      refine PutA_of (free_ok (H2.fwd (ids := []) (by repeat first | exact Fwd.refl _ _ | refine Fwd.set ?_ _ (by simp) | refine Fwd.new ?_ _) (by simp) (by simp)) ⟨k, 0⟩) ?_
      rintro v h3 ⟨rfl, H3, F3⟩
      have B3 := F3.arr (id := h2.objs.length + 1) (g := 0) (ar := ⟨0, 2, true, 0, [[eI k, eI 0]]⟩) (by simp) (by simp [nl a2, nl b2])
      have hl3 := F3.limlen (by simp; omega)
      rw [full_early hkl] at H3 ⊢
      simp [B3]
      refine PutA_of (add_ok H3 ⟨k, 0⟩ (-1)) ?_
      rintro v h4 ⟨rfl, H4, F4⟩
      have B4 := F4.arr B3 (by simp [nl a2, nl b2])
      have hl4 := F4.limlen hl3
      rw [full_add hkl] at H4 ⊢
      simp
      refine PutA_of (take_ok H4 (by simp [deadS, full_len]; omega) ⟨0, 0, 0, 0, 0, 0⟩) ?_
      rintro v h5 ⟨rfl, H5, F5⟩
      have B5 := F5.arr B4 (by simp [nl a2, nl b2])
      have hl5 := F5.limlen hl4
      rw [full_stop i (deadS i k) (all_used i k _ rfl)] at H5 ⊢
      have c5 := arr_lt B5
      simp [Ref.cells, hl5, B5, nl c5]
      refine PutA_of (free_ok (H5.fwd (ids := []) (by repeat first | exact Fwd.refl _ _ | refine Fwd.set ?_ _ (by simp) | refine Fwd.new ?_ _) (by simp) (by simp)) ⟨k, 0⟩) ?_
      rintro v h6 ⟨rfl, H6, F6⟩
      have hl6 := F6.limlen (by simp; omega)
      rw [dead_free hkl] at H6 ⊢
      simp
      refine PutA_of (take_ok H6 (by simp [openS, full_len]; omega) ⟨0, 99, 0, 0, 0, 0⟩) ?_
      rintro v h7 ⟨rfl, H7, F7⟩
      have hl7 := F7.limlen hl6
      obtain ⟨s7, e7, l7, g7⟩ := open_take hkl ⟨0, 99, 0, 0, 0, 0⟩
      rw [e7] at H7 ⊢
      simp [Ref.cells, hl7]
      refine PutA_eq (get_ok (H7.toStoRd.fwd (ids := []) (by repeat first | exact Fwd.refl _ _ | refine Fwd.set ?_ _ (by simp) | refine Fwd.new ?_ _) (by simp) (by simp)) ⟨k, 1⟩) ?_
      rw [g7]
      have hs7 : h7.lim ≤ h7.objs.length + 1 := by omega
      simp [Evt.cells, Ends, hs7]
theorem storeFull_D : ∀ xss, Typed [([.int .i64], false), ([.int .i64], false)] xss → C0 n_StoreFull (argsEV [([.int .i64], false), ([.int .i64], false)] xss) ⟨[], 0⟩ = some (eB true, ⟨[], 0⟩) := by
  intro xss h
  simp only [Typed, PTs, PT] at h
  obtain ⟨_, _, rfl, ⟨_, _, rfl, ⟨a, rfl, ha⟩, rfl⟩, ⟨_, _, rfl, ⟨_, _, rfl, ⟨b, rfl, hb⟩, rfl⟩, rfl⟩⟩ := h
  exact storeFull_ok a b _

end Dk.A
