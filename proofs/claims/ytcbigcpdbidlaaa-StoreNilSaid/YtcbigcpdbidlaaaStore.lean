/- The store: what its functions do, and how D's code does it. -/
import Derived.Test.YtcbigcpdbidlaaaP
set_option linter.unusedVariables false
set_option linter.unusedSimpArgs false

namespace Dk.A
open Go Dk

structure Evt where
  (t k a b c d : Int)
  deriving DecidableEq
def Evt.cells (e : Evt) : List EV := [eI e.t, eI e.k, eI e.a, eI e.b, eI e.c, eI e.d]
def Evt.zero : Evt := ⟨0, 0, 0, 0, 0, 0⟩
structure Ref where
  (slot gen : Int)
  deriving DecidableEq
def Ref.cells (r : Ref) : List EV := [eI r.slot, eI r.gen]
structure Slot where
  gen : Int
  used : Bool
  ev : Evt
  count : Int
def Slot.cells (s : Slot) : List EV := [eI s.gen, eB s.used, eI s.ev.t, eI s.ev.k, eI s.ev.a, eI s.ev.b, eI s.ev.c, eI s.ev.d, eI s.count]
structure Sto where
  slots : List Slot
  used : Int
  live : Int

def Sto.free (s : Sto) : Nat := s.slots.findIdx (fun x => !x.used)
def Sto.take (s : Sto) (e : Evt) : Ref × Bool × Sto :=
  match s.slots[s.free]? with
  | some x => (⟨s.free, x.gen⟩, true, ⟨s.slots.set s.free ⟨x.gen, true, e, 1⟩, w64 (s.used + 1), w64 (s.live + 1)⟩)
  | none => (⟨0, 0⟩, false, s)

theorem rest_ok (x n : Int) (h : Hp) (hn : 0 < n ∧ n < 4611686018427387904) : C0 n_rest [eI x, eI n] h = some (eI (x % n), h) := by
  have hn0 : n ≠ 0 := by omega
  have h1 := Int.tmod_lt_of_pos x hn.1
  have h2 : -n < x.tmod n := by
    have := Int.tmod_lt_of_pos (-x) hn.1
    rw [Int.neg_tmod] at this
    omega
  have e1 : IntKind.wrap .i64 (x.tmod n + n) = x.tmod n + n := wrap64 (by omega) (by omega)
  refine call_loc noExt_mono (f := n_rest) rfl rfl rfl fun h0 e0 el => ?_
  simp [Ends, hn0, e1]
  rw [Int.tmod_eq_emod_of_nonneg (by omega), Int.add_emod_right]
  conv => rhs; rw [← Int.mul_tdiv_add_tmod x n, Int.mul_add_emod_self_left]

structure StoRd (h : Hp) (id id2 : Nat) (s : Sto) : Prop where
  top : h.arr id 0 = some ⟨0, 3, true, 0, [[.arr id2 0 9 0 s.slots.length false, eI s.used, eI s.live]]⟩
  sl : h.arr id2 0 = some ⟨0, 9, true, 0, s.slots.map Slot.cells⟩
  ne : id ≠ id2
theorem StoRd.objs {h h0 : Hp} {id id2 : Nat} {s : Sto} (H : StoRd h id id2 s) (e : h0.objs = h.objs) : StoRd h0 id id2 s :=
  ⟨by rw [Hp.arr_objs e]; exact H.top, by rw [Hp.arr_objs e]; exact H.sl, H.ne⟩
structure StoAt (h : Hp) (id id2 : Nat) (s : Sto) : Prop extends StoRd h id id2 s where
  lim : h.lim ≤ id
  lim2 : h.lim ≤ id2

theorem StoRd.fwd {h h' : Hp} {id id2 : Nat} {s : Sto} (H : StoRd h id id2 s) {ids : List Nat} (f : Fwd ids h h') (h1 : id ∉ ids) (h2 : id2 ∉ ids) : StoRd h' id id2 s :=
  ⟨f.arr H.top h1, f.arr H.sl h2, H.ne⟩
theorem StoAt.fwd {h h' : Hp} {id id2 : Nat} {s : Sto} (H : StoAt h id id2 s) {ids : List Nat} (f : Fwd ids h h') (h1 : id ∉ ids) (h2 : id2 ∉ ids) : StoAt h' id id2 s :=
  ⟨H.toStoRd.fwd f h1 h2, by rw [f.lim]; exact H.lim, by rw [f.lim]; exact H.lim2⟩

theorem get_slot {l : List Slot} {k : Nat} {x : Slot} (h : l[k]? = some x) : (l.map Slot.cells)[k]? = some x.cells := by simp [h]

theorem free_le (s : Sto) : s.free ≤ s.slots.length := List.findIdx_le_length

theorem free_stop {s : Sto} {k : Nat} {x : Slot} (hk : ∀ j y, j < k → s.slots[j]? = some y → y.used = true) (hx : s.slots[k]? = some x) (hu : x.used = false) : s.free = k := by
  have hl := (List.getElem?_eq_some_iff.1 hx).1
  have hx' := (List.getElem?_eq_some_iff.1 hx).2
  unfold Sto.free
  rw [List.findIdx_eq hl]
  refine ⟨by rw [hx']; simp [hu], fun j hj => ?_⟩
  have hjl : j < s.slots.length := by omega
  have := hk j _ hj (List.getElem?_eq_getElem hjl)
  simp [this]
theorem free_all {s : Sto} (hk : ∀ j y, j < s.slots.length → s.slots[j]? = some y → y.used = true) : s.free = s.slots.length := by
  unfold Sto.free
  rw [List.findIdx_eq_length]
  intro x hx
  obtain ⟨j, hj, rfl⟩ := List.getElem_of_mem hx
  have := hk j _ hj (List.getElem?_eq_getElem hj)
  simp [this]

theorem take_ok {h : Hp} {id id2 : Nat} {s : Sto} (H : StoAt h id id2 s) (hlen : s.slots.length ≤ 4096) (e : Evt) :
    WA (C0 n_Take [.ptr id 0 0 0, .agg e.cells] h) (fun v h' => v = .tup [.agg (s.take e).1.cells, eB (s.take e).2.1] ∧ StoAt h' id id2 (s.take e).2.2 ∧ Fwd [id, id2] h h') := by
  refine call_W noExt_mono (f := n_Take) rfl rfl ?_
  simp only [Evt.cells]
  have l1 := arr_lt H.top
  have l2 := arr_lt H.sl
  have L1 := ll H.lim l1
  have hF : Fwd [id, id2] h h := Fwd.refl _ _
  simp
  refine Run_loop (fun m fr h' => ∃ k : Nat, fr.get 6 = eI k ∧ k ≤ s.slots.length ∧ m = s.slots.length - k ∧ (∀ j y, j < k → s.slots[j]? = some y → y.used = true) ∧ fr.get 0 = .ptr id 0 0 0 ∧ fr.get 4 = .ptr (h.objs.length + 1) 0 0 0 ∧ fr.get 3 = .ptr h.objs.length 0 0 0 ∧
    h' = (h.new (.cells ⟨0, 6, true, 0, [[eI e.t, eI e.k, eI e.a, eI e.b, eI e.c, eI e.d]]⟩)).new (.cells ⟨0, 2, true, 0, [[eI 0, eI 0]]⟩)) (n := s.slots.length) ?_ ?_
  · exact ⟨0, by simp, by omega, by omega, fun j y hj => by omega, by simp, by simp, by simp, rfl⟩
  · rintro m fr h' ⟨k, g6, hkl, rfl, hk, g0, g4, g3, rfl⟩
    simp [g0, g6, g4, g3, H.top, nl l1]
    by_cases hlt : k < s.slots.length
    · obtain ⟨x, hx⟩ : ∃ x, s.slots[k]? = some x := ⟨_, List.getElem?_eq_getElem hlt⟩
      have hx2 : s.slots[k] = x := (List.getElem?_eq_some_iff.1 hx).2
      cases hu : x.used with
      | true =>
        have ew : w64 (k + 1) = k + 1 := wrap64 (by omega) (by omega)
        simp [hlt, g0, g6, g4, g3, H.top, H.sl, nl l1, nl l2, hx, hx2, Slot.cells, hu, ew]
        refine ⟨s.slots.length - (k + 1), by omega, k + 1, by simp, by omega, rfl, fun j y hj hy => ?_⟩
        by_cases e : j = k
        · subst e; rw [hx] at hy; cases hy; exact hu
        · exact hk j y (by omega) hy
      | false =>
        have hf := free_stop hk hx hu
        have hk4 : (k : Int) ≠ s.slots.length := by omega
        simp [hlt, hk4, g0, g6, g4, g3, H.top, H.sl, nl l1, nl l2, hx, hx2, Slot.cells, hu, L1, H.lim2, H.ne, H.ne.symm, Ends, Sto.take, hf]
        refine ⟨rfl, ⟨⟨?_, ?_, H.ne⟩, H.lim, H.lim2⟩, ?_⟩
        · simp [nl l1, H.ne]
        · simp [nl l1, nl l2, H.ne, H.ne.symm, Slot.cells]
        · repeat first | exact hF | refine Fwd.set ?_ _ (by simp) | refine Fwd.new ?_ _
    · have hf : s.free = s.slots.length := free_all (fun j y hj => hk j y (by omega))
      have hk4 : (k : Int) = s.slots.length := by omega
      simp [hlt, hk4, g0, g6, g4, g3, H.top, H.sl, nl l1, nl l2, Slot.cells, Ends, Sto.take, hf, L1]
      have hF1 : Fwd [] h h := Fwd.refl _ _
      have f : ∀ ids, Fwd ids h (((h.new (.cells ⟨0, 6, true, 0, [[eI e.t, eI e.k, eI e.a, eI e.b, eI e.c, eI e.d]]⟩)).new (.cells ⟨0, 2, true, 0, [[eI 0, eI 0]]⟩)).setArr (h.objs.length + 1) ⟨0, 2, true, 0, [[eI 0, eI 0]]⟩) := fun ids => by
        have := Fwd.refl ids h
        repeat first | exact this | refine Fwd.set ?_ _ (by simp) | refine Fwd.new ?_ _
      exact ⟨rfl, H.fwd (f []) (by simp) (by simp), f _⟩

/-- A ref's slot, if it counts. -/
def Sto.at (s : Sto) (r : Ref) : Option (Nat × Slot) :=
  if 0 ≤ r.slot then match s.slots[r.slot.toNat]? with
    | some x => if x.used = true ∧ x.gen = r.gen then some (r.slot.toNat, x) else none
    | none => none
  else none

/-- What is done with a ref's slot. -/
theorem with_ok {h : Hp} {id id2 : Nat} {s : Sto} (H : StoRd h id id2 s) (r : Ref) (f : Nat) (cap : List EV) (R : EV → Hp → Prop)
    (hno : s.at r = none → ∀ h', Fwd [] h h' → R (eB false) h')
    (hdo : ∀ i x, s.at r = some (i, x) → ∀ h', Fwd [] h h' → WA (C0 f (.ptr id2 0 i 0 :: cap) h') fun v h'' => ∃ b, v = eB b ∧ h''.lim = h.lim ∧ R v h'') :
    WA (C0 n_with [.ptr id 0 0 0, .agg r.cells, .fn (.func f) [] cap] h) R := by
  refine call_W noExt_mono (f := n_with) rfl rfl ?_
  simp only [Ref.cells]
  have l1 := arr_lt H.top
  have l2 := arr_lt H.sl
  have f1 : Fwd [] h (h.new (.cells ⟨0, 2, true, 0, [[eI r.slot, eI r.gen]]⟩)) := (Fwd.refl [] h).new _
  by_cases h0 : r.slot < 0
  · simp [h0, H.top, nl l1, Ends]
    exact hno (by simp [Sto.at]; omega) _ f1
  by_cases h1 : (s.slots.length : Int) ≤ r.slot
  · simp [h0, h1, H.top, nl l1, Ends]
    refine hno ?_ _ f1
    have : s.slots.length ≤ r.slot.toNat := by omega
    simp [Sto.at, this]
  have hlt : r.slot.toNat < s.slots.length := by omega
  obtain ⟨k, hk⟩ : ∃ k : Nat, r.slot = k := ⟨r.slot.toNat, by omega⟩
  have hkl : k < s.slots.length := by omega
  obtain ⟨x, hx⟩ : ∃ x, s.slots[k]? = some x := ⟨_, List.getElem?_eq_getElem hkl⟩
  have hx2 : s.slots[k] = x := (List.getElem?_eq_some_iff.1 hx).2
  have h1' : ¬ (s.slots.length : Int) ≤ (k : Int) := by omega
  have h0' : ¬ (k : Int) < 0 := by omega
  rw [hk] at f1
  have hz : 0 ≤ (k : Int) := by omega
  cases hu : x.used with
  | false =>
    simp [hk, h1', h0', H.top, nl l1, nl l2, Ends, H.sl, hx, hx2, Slot.cells, hu, hkl]
    exact hno (by simp [Sto.at, hk, hx, hx2, hu, hkl]) _ f1
  | true =>
    by_cases hg : x.gen = r.gen
    · have := hdo k x (by simp [Sto.at, hk, hx, hx2, hu, hg, hkl]) _ f1
      obtain ⟨v, h2, e, b, rfl, q1, q2⟩ := this
      have e' : call prog noExt f [EV.ptr id2 0 k 0] = call prog noExt f [EV.ptr id2 0 k 0] := rfl
      simp [hk, h1', h0', H.top, nl l1, nl l2, H.sl, hx, hx2, Slot.cells, hu, hg, hkl]
      unfold C0 at e
      rw [e]
      cases b <;> simp [Ends, Hp.back_of q1] <;> exact q2
    · simp [hk, h1', h0', H.top, nl l1, nl l2, Ends, H.sl, hx, hx2, Slot.cells, hu, hkl, hg]
      exact hno (by simp [Sto.at, hk, hx, hx2, hu, hkl, hg]) _ f1

def Sto.add (s : Sto) (r : Ref) (n : Int) : Int × Bool × Sto :=
  match s.at r with
  | none => (0, false, s)
  | some (i, x) =>
    if x.count = 0 ∨ n < w64 (0 - x.count) ∨ w64 (1099511627776 - x.count) < n then (0, false, s) else
    (w64 (x.count + n), true, ⟨s.slots.set i { x with count := w64 (x.count + n) }, s.used, if w64 (x.count + n) = 0 then w64 (s.live - 1) else s.live⟩)

theorem Sto.at_some {s : Sto} {r : Ref} {i : Nat} {x : Slot} (h : s.at r = some (i, x)) : i < s.slots.length ∧ s.slots[i]? = some x ∧ r.slot = i ∧ x.used = true ∧ x.gen = r.gen := by
  unfold Sto.at at h
  split at h
  · split at h
    · rename_i h0 y hy
      split at h
      · rename_i hc
        cases h
        exact ⟨(List.getElem?_eq_some_iff.1 hy).1, hy, by omega, hc.1, hc.2⟩
      · cases h
    · cases h
  · cases h

theorem add_ok {h : Hp} {id id2 : Nat} {s : Sto} (H : StoAt h id id2 s) (r : Ref) (n : Int) :
    WA (C0 n_Add [.ptr id 0 0 0, .agg r.cells, eI n] h) (fun v h' => v = .tup [eI (s.add r n).1, eB (s.add r n).2.1] ∧ StoAt h' id id2 (s.add r n).2.2 ∧ Fwd [id, id2] h h') := by
  refine call_W noExt_mono (f := n_Add) rfl rfl ?_
  simp only [Ref.cells]
  have l1 := arr_lt H.top
  have l2 := arr_lt H.sl
  have L1 := ll H.lim l1
  have hF : ∀ ids, Fwd ids h h := fun ids => Fwd.refl _ _
  simp [nl l1, nl l2, L1, H.lim2]
  generalize hh : ((((h.new (.cells ⟨0, 1, false, 0, [[.ptr id 0 0 0]]⟩)).new (.cells ⟨0, 2, true, 0, [[eI r.slot, eI r.gen]]⟩)).new (.cells ⟨0, 1, false, 0, [[eI n]]⟩)).new (.cells ⟨0, 1, false, 0, [[eI 0]]⟩)).setArr (h.objs.length + 3) ⟨0, 1, false, 0, [[.p (.int .i64 0)]]⟩ = h3
  have f3 : ∀ ids, Fwd ids h h3 := fun ids => by
    subst hh
    repeat first | exact hF ids | refine Fwd.set ?_ _ (by simp) | refine Fwd.new ?_ _
  have e0 : h3.arr h.objs.length 0 = some ⟨0, 1, false, 0, [[.ptr id 0 0 0]]⟩ := by subst hh; simp
  have e2 : h3.arr (h.objs.length + 2) 0 = some ⟨0, 1, false, 0, [[eI n]]⟩ := by subst hh; simp
  have e3 : h3.arr (h.objs.length + 3) 0 = some ⟨0, 1, false, 0, [[eI 0]]⟩ := by subst hh; simp
  have H3 := H.fwd (f3 []) (by simp) (by simp)
  have hl3 : h3.lim = h.lim := (f3 []).lim
  clear hh
  refine PutA_of (with_ok H3.toStoRd r n_Add1 _ (fun v h' => v = eB (s.add r n).2.1 ∧ StoAt h' id id2 (s.add r n).2.2 ∧ Fwd [id, id2, h.objs.length + 3] h3 h' ∧ h'.arr (h.objs.length + 3) 0 = some ⟨0, 1, false, 0, [[eI (s.add r n).1]]⟩) ?_ ?_) ?_
  · intro hn h' f
    simp only [Sto.add, hn]
    exact ⟨trivial, H3.fwd f (by simp) (by simp), f.mono (by simp), f.arr e3 (by simp)⟩
  · intro i x hi h' f
    obtain ⟨hil, hx, hri, hu, hg⟩ := Sto.at_some hi
    have hx2 : s.slots[i] = x := (List.getElem?_eq_some_iff.1 hx).2
    have H' := H3.fwd f (by simp) (by simp)
    have e0' := f.arr e0 (by simp)
    have e2' := f.arr e2 (by simp)
    have e3' := f.arr e3 (by simp)
    have hl : h'.lim = h.lim := f.lim.trans hl3
    have hlen : id < h'.objs.length ∧ id2 < h'.objs.length ∧ h.objs.length + 3 < h'.objs.length := ⟨arr_lt H'.top, arr_lt H'.sl, arr_lt e3'⟩
    refine call_W noExt_mono (f := n_Add1) rfl rfl ?_
    by_cases hc0 : x.count = 0
    · simp [H'.sl, hx, hx2, hil, hri, Slot.cells, hc0, Ends, hl, Sto.add, hi, hl3]
      exact ⟨Hp.back_of hl ▸ H', by rw [Hp.back_of hl]; exact f.mono (by simp), by rw [Hp.back_of hl]; exact e3'⟩
    by_cases hc1 : n < w64 (0 - x.count)
    · have hc1' : n < w64 (-x.count) := by simpa using hc1
      simp [H'.sl, hx, hx2, hil, hri, Slot.cells, hc0, hc1', e2', Ends, hl, Sto.add, hi, hl3]
      exact ⟨Hp.back_of hl ▸ H', by rw [Hp.back_of hl]; exact f.mono (by simp), by rw [Hp.back_of hl]; exact e3'⟩
    have hc1' : ¬ n < w64 (-x.count) := by simpa using hc1
    by_cases hc2 : w64 (1099511627776 - x.count) < n
    · simp [H'.sl, hx, hx2, hil, hri, Slot.cells, hc0, hc1', hc2, e2', Ends, hl, Sto.add, hi, hl3]
      exact ⟨Hp.back_of hl ▸ H', by rw [Hp.back_of hl]; exact f.mono (by simp), by rw [Hp.back_of hl]; exact e3'⟩
    have ha : s.add r n = (w64 (x.count + n), true, ⟨s.slots.set i { x with count := w64 (x.count + n) }, s.used, if w64 (x.count + n) = 0 then w64 (s.live - 1) else s.live⟩) := by
      simp only [Sto.add, hi]; rw [if_neg (by omega)]
    rw [ha]
    by_cases hc3 : w64 (x.count + n) = 0
    · simp [H'.sl, hx, hx2, hil, hri, Slot.cells, hc0, hc1', hc2, hc3, e2', e3', e0', H'.top, Ends, hl, hlen, nl l1, nl l2, L1, H.lim2, H.ne, H.ne.symm]
      rw [Hp.back_of hl]
      have hF : Fwd [id, id2, h.objs.length + 3] h3 h' := f.mono (by simp)
      refine ⟨hl3.symm, ⟨⟨?_, ?_, H.ne⟩, by simpa [hl] using H.lim, by simpa [hl] using H.lim2⟩, ?_⟩
      · simp [H'.top, hlen, nl l1, nl l2, H.ne, H.ne.symm]
      · simp [H'.sl, hlen, nl l1, nl l2, H.ne, H.ne.symm, Slot.cells]
      · repeat first | exact hF | refine Fwd.set ?_ _ (by simp)
    · simp [H'.sl, hx, hx2, hil, hri, Slot.cells, hc0, hc1', hc2, hc3, e2', e3', e0', H'.top, Ends, hl, hlen, nl l1, nl l2, L1, H.lim2, H.ne, H.ne.symm]
      rw [Hp.back_of hl]
      have hF : Fwd [id, id2, h.objs.length + 3] h3 h' := f.mono (by simp)
      refine ⟨hl3.symm, ⟨⟨?_, ?_, H.ne⟩, by simpa [hl] using H.lim, by simpa [hl] using H.lim2⟩, ?_⟩
      · simp [H'.top, hlen, nl l1, nl l2, H.ne, H.ne.symm]
      · simp [H'.sl, hlen, nl l1, nl l2, H.ne, H.ne.symm, Slot.cells]
      · repeat first | exact hF | refine Fwd.set ?_ _ (by simp)
  · rintro v h' ⟨rfl, q1, q2, q3⟩
    have hl : h'.lim = h.lim := q2.lim.trans hl3
    simp [q3, Ends, Hp.back_of hl]
    exact ⟨q1, (f3 _).trans' q2 (by simp)⟩

def Sto.freed (s : Sto) (r : Ref) : Bool × Sto :=
  match s.at r with
  | none => (false, s)
  | some (i, x) => if 0 < x.count then (false, s) else (true, ⟨s.slots.set i ⟨w64 (x.gen + 1), false, Evt.zero, 0⟩, w64 (s.used - 1), s.live⟩)

theorem free_ok {h : Hp} {id id2 : Nat} {s : Sto} (H : StoAt h id id2 s) (r : Ref) :
    WA (C0 n_Free [.ptr id 0 0 0, .agg r.cells] h) (fun v h' => v = eB (s.freed r).1 ∧ StoAt h' id id2 (s.freed r).2 ∧ Fwd [id, id2] h h') := by
  refine call_W noExt_mono (f := n_Free) rfl rfl ?_
  simp only [Ref.cells]
  have l1 := arr_lt H.top
  have l2 := arr_lt H.sl
  have L1 := ll H.lim l1
  have hF : ∀ ids, Fwd ids h h := fun ids => Fwd.refl _ _
  simp [nl l1, nl l2, L1, H.lim2]
  generalize hh : (h.new (.cells ⟨0, 1, false, 0, [[.ptr id 0 0 0]]⟩)).new (.cells ⟨0, 2, true, 0, [[eI r.slot, eI r.gen]]⟩) = h3
  have f3 : ∀ ids, Fwd ids h h3 := fun ids => by
    subst hh
    repeat first | exact hF ids | refine Fwd.set ?_ _ (by simp) | refine Fwd.new ?_ _
  have e0 : h3.arr h.objs.length 0 = some ⟨0, 1, false, 0, [[.ptr id 0 0 0]]⟩ := by subst hh; simp
  have H3 := H.fwd (f3 []) (by simp) (by simp)
  have hl3 : h3.lim = h.lim := (f3 []).lim
  clear hh
  refine PutA_of (with_ok H3.toStoRd r n_Free1 _ (fun v h' => v = eB (s.freed r).1 ∧ StoAt h' id id2 (s.freed r).2 ∧ Fwd [id, id2] h3 h') ?_ ?_) ?_
  · intro hn h' f
    simp only [Sto.freed, hn]
    exact ⟨trivial, H3.fwd f (by simp) (by simp), f.mono (by simp)⟩
  · intro i x hi h' f
    obtain ⟨hil, hx, hri, hu, hg⟩ := Sto.at_some hi
    have hx2 : s.slots[i] = x := (List.getElem?_eq_some_iff.1 hx).2
    have H' := H3.fwd f (by simp) (by simp)
    have e0' := f.arr e0 (by simp)
    have hl : h'.lim = h.lim := f.lim.trans hl3
    have hlen : id < h'.objs.length ∧ id2 < h'.objs.length := ⟨arr_lt H'.top, arr_lt H'.sl⟩
    have hL : h'.objs.length ≥ h.objs.length := Nat.le_trans (f3 []).len f.len
    refine call_W noExt_mono (f := n_Free1) rfl rfl ?_
    by_cases hc0 : 0 < x.count
    · simp [H'.sl, hx, hx2, hil, hri, Slot.cells, hc0, Ends, hl, Sto.freed, hi, hl3]
      exact ⟨Hp.back_of hl ▸ H', by rw [Hp.back_of hl]; exact f.mono (by simp)⟩
    · have hF : Fwd [id, id2] h3 h' := f.mono (by simp)
      simp [H'.sl, hx, hx2, hil, hri, Slot.cells, hc0, e0', H'.top, Ends, hl, hlen, nl l1, nl l2, L1, H.lim2, H.ne, H.ne.symm, Sto.freed, hi]
      rw [Hp.back_of hl]
      refine ⟨hl3.symm, ⟨⟨?_, ?_, H.ne⟩, by simpa [hl] using H.lim, by simpa [hl] using H.lim2⟩, ?_⟩
      · simp [H'.top, hlen, nl l1, nl l2, H.ne, H.ne.symm]
      · simp [H'.sl, hlen, nl l1, nl l2, H.ne, H.ne.symm, Slot.cells, Evt.zero]
      · repeat first | exact hF | refine Fwd.set ?_ _ (by simp)
  · rintro v h' ⟨rfl, q1, q2⟩
    have hl : h'.lim = h.lim := q2.lim.trans hl3
    simp [Ends, Hp.back_of hl]
    exact ⟨q1, (f3 _).trans' q2 (by simp)⟩

def Sto.get (s : Sto) (r : Ref) : Evt × Bool :=
  match s.at r with
  | none => (Evt.zero, false)
  | some (_, x) => (x.ev, true)
def Sto.count (s : Sto) (r : Ref) : Int :=
  match s.at r with
  | none => 0
  | some (_, x) => x.count

theorem get_ok {h : Hp} {id id2 : Nat} {s : Sto} (H : StoRd h id id2 s) (r : Ref) :
    C0 n_Get [.ptr id 0 0 0, .agg r.cells] h = some (.tup [.agg (s.get r).1.cells, eB (s.get r).2], h) := by
  refine call_loc noExt_mono (f := n_Get) rfl rfl (by simp [Evt.cells]) fun h0 e0 el => ?_
  replace H := H.objs e0
  simp only [Ref.cells]
  simp
  generalize hh : (h0.new (.cells ⟨0, 2, true, 0, [[eI r.slot, eI r.gen]]⟩)).new (.cells ⟨0, 6, true, 0, [[eI 0, eI 0, eI 0, eI 0, eI 0, eI 0]]⟩) = h3
  have f3 : Fwd [] h0 h3 := by subst hh; exact ((Fwd.refl _ _).new _).new _
  have e1 : h3.arr (h0.objs.length + 1) 0 = some ⟨0, 6, true, 0, [Evt.zero.cells]⟩ := by subst hh; simp [Evt.cells, Evt.zero]
  have H3 := H.fwd f3 (by simp) (by simp)
  have l2 := arr_lt H.sl
  have hl3 : h3.lim = h0.objs.length := f3.lim.trans el
  clear hh
  refine PutA_of (with_ok H3 r n_Get1 _ (fun v h' => v = eB (s.get r).2 ∧ h'.lim = h0.objs.length ∧ h'.arr (h0.objs.length + 1) 0 = some ⟨0, 6, true, 0, [(s.get r).1.cells]⟩) ?_ ?_) ?_
  · intro hn h' f
    simp only [Sto.get, hn]
    exact ⟨trivial, f.lim.trans hl3, f.arr e1 (by simp)⟩
  · intro i x hi h' f
    obtain ⟨hil, hx, hri, hu, hg⟩ := Sto.at_some hi
    have hx2 : s.slots[i] = x := (List.getElem?_eq_some_iff.1 hx).2
    have H' := H3.fwd f (by simp) (by simp)
    have e1' := f.arr e1 (by simp)
    have hl : h'.lim = h0.objs.length := f.lim.trans hl3
    have l3 := arr_lt e1'
    refine call_W noExt_mono (f := n_Get1) rfl rfl ?_
    simp [H'.sl, hx, hx2, hil, Slot.cells, e1', Evt.cells, Evt.zero, hl, Ends, Sto.get, hi, l3, hl3, Hp.back_of hl]
  · rintro v h' ⟨rfl, q1, q2⟩
    simp [q2, q1, Ends, Evt.cells, arr_lt q2]

theorem count_ok {h : Hp} {id id2 : Nat} {s : Sto} (H : StoRd h id id2 s) (r : Ref) :
    C0 n_Count [.ptr id 0 0 0, .agg r.cells] h = some (eI (s.count r), h) := by
  refine call_loc noExt_mono (f := n_Count) rfl rfl rfl fun h0 e0 el => ?_
  replace H := H.objs e0
  simp only [Ref.cells]
  simp [el]
  generalize hh : ((h0.new (.cells ⟨0, 2, true, 0, [[eI r.slot, eI r.gen]]⟩)).new (.cells ⟨0, 1, false, 0, [[eI 0]]⟩)).setArr (h0.objs.length + 1) ⟨0, 1, false, 0, [[.p (.int .i64 0)]]⟩ = h3
  have f3 : Fwd [] h0 h3 := by subst hh; exact (((Fwd.refl _ _).new _).new _).set _ (by simp)
  have e1 : h3.arr (h0.objs.length + 1) 0 = some ⟨0, 1, false, 0, [[eI 0]]⟩ := by subst hh; simp
  have H3 := H.fwd f3 (by simp) (by simp)
  have l2 := arr_lt H.sl
  have hl3 : h3.lim = h0.objs.length := f3.lim.trans el
  clear hh
  refine PutA_of (with_ok H3 r n_Count1 _ (fun v h' => h'.arr (h0.objs.length + 1) 0 = some ⟨0, 1, false, 0, [[eI (s.count r)]]⟩) ?_ ?_) ?_
  · intro hn h' f
    simp only [Sto.count, hn]
    exact f.arr e1 (by simp)
  · intro i x hi h' f
    obtain ⟨hil, hx, hri, hu, hg⟩ := Sto.at_some hi
    have hx2 : s.slots[i] = x := (List.getElem?_eq_some_iff.1 hx).2
    have H' := H3.fwd f (by simp) (by simp)
    have e1' := f.arr e1 (by simp)
    have hl : h'.lim = h0.objs.length := f.lim.trans hl3
    have l3 := arr_lt e1'
    refine call_W noExt_mono (f := n_Count1) rfl rfl ?_
    simp [H'.sl, hx, hx2, hil, Slot.cells, e1', hl, Ends, Sto.count, hi, l3, hl3]
  · rintro v h' q2
    simp [q2, Ends]

theorem used_ok {h : Hp} {id id2 : Nat} {s : Sto} (H : StoRd h id id2 s) : C0 n_Used [.ptr id 0 0 0] h = some (eI s.used, h) := by
  refine call_loc noExt_mono (f := n_Used) rfl rfl rfl fun h0 e0 el => ?_
  replace H := H.objs e0
  simp [H.top, Ends]
theorem live_ok {h : Hp} {id id2 : Nat} {s : Sto} (H : StoRd h id id2 s) : C0 n_Live [.ptr id 0 0 0] h = some (eI s.live, h) := by
  refine call_loc noExt_mono (f := n_Live) rfl rfl rfl fun h0 e0 el => ?_
  replace H := H.objs e0
  simp [H.top, Ends]

/-- A new store. -/
def Sto.new (n : Nat) : Sto := ⟨List.replicate n ⟨0, false, Evt.zero, 0⟩, 0, 0⟩
theorem new_ok (n : Nat) (h : Hp) (hn : 1 ≤ n ∧ n ≤ 4096) (hL : h.lim ≤ h.objs.length) : WA (C0 n_New [eI n] h) (fun v h' => v = .ptr (h.objs.length + 1) 0 0 0 ∧ StoAt h' (h.objs.length + 1) h.objs.length (Sto.new n) ∧ Fwd [] h h') := by
  refine call_W noExt_mono (f := n_New) rfl rfl ?_
  have h1 : ¬ (n : Int) < 1 := by omega
  have h2 : ¬ 4096 < (n : Int) := by omega
  have h3 : (0 : Int) ≤ n ∧ (n : Int) * 72 ≤ 140737488355328 ∧ (n : Int) < 9223372036854775808 := by omega
  simp [Ends, h1, h2, h3]
  refine ⟨⟨⟨?_, ?_, by omega⟩, by simp; omega, by simpa using hL⟩, ((Fwd.refl _ _).new _).new _⟩
  · simp [Sto.new]
  · simp [Sto.new, Slot.cells, Evt.zero]
theorem new_nil (n : Int) (h : Hp) (hn : ¬ (1 ≤ n ∧ n ≤ 4096)) : WA (C0 n_New [eI n] h) (fun v h' => v = .nilp ∧ h' = h) := by
  refine call_W noExt_mono (f := n_New) rfl rfl ?_
  by_cases h1 : n < 1
  · simp [Ends, h1]
  · have h2 : 4096 < n := by omega
    simp [Ends, h1, h2]

end Dk.A
