/- StoreOwn. -/
import Derived.Test.YtcbigcpdbidlaaaAwake
set_option linter.unusedVariables false
set_option linter.unusedSimpArgs false
namespace Dk.A
open Go Dk

/-- What holds of the refs that were told, and which of them are gone. -/
structure OwnI (s : Sto) (R : List Ref) (G : List Bool) (b : Int) : Prop where
  len : R.length = G.length
  gen : ∀ (k : Nat) (x : Slot), s.slots[k]? = some x → 0 ≤ x.gen ∧ x.gen ≤ b
  refs : ∀ (j : Nat) (r : Ref), R[j]? = some r → ∃ (k : Nat) (x : Slot), r.slot = k ∧ s.slots[k]? = some x ∧ r.gen ≤ x.gen ∧ (x.used = false → r.gen < x.gen) ∧
    (G[j]? = some false ↔ (x.used = true ∧ r.gen = x.gen)) ∧ ((x.used = true ∧ r.gen = x.gen) → x.ev.k = j)

theorem OwnI.mono {s : Sto} {R : List Ref} {G : List Bool} {b b' : Int} (h : OwnI s R G b) (hb : b ≤ b') : OwnI s R G b' :=
  ⟨h.len, fun k x hx => ⟨(h.gen k x hx).1, Int.le_trans (h.gen k x hx).2 hb⟩, h.refs⟩

theorem at_of {s : Sto} {r : Ref} {k : Nat} {x : Slot} (h1 : r.slot = k) (h2 : s.slots[k]? = some x) : s.at r = if x.used = true ∧ x.gen = r.gen then some (k, x) else none := by
  have hk : k < s.slots.length := (List.getElem?_eq_some_iff.1 h2).1
  have hx : s.slots[k] = x := (List.getElem?_eq_some_iff.1 h2).2
  simp [Sto.at, h1, hk, hx]

/-- A ref that is there is told its event; one that is gone is told nothing. -/
theorem OwnI.live {s : Sto} {R : List Ref} {G : List Bool} {b : Int} (h : OwnI s R G b) {j : Nat} {r : Ref} (hr : R[j]? = some r) (hg : G[j]? = some false) : ∃ k x, s.at r = some (k, x) ∧ x.ev.k = j := by
  obtain ⟨k, x, h1, h2, h3, h4, h5, h6⟩ := h.refs j r hr
  have := h5.1 hg
  exact ⟨k, x, by rw [at_of h1 h2, if_pos ⟨this.1, this.2.symm⟩], h6 this⟩
theorem OwnI.dead {s : Sto} {R : List Ref} {G : List Bool} {b : Int} (h : OwnI s R G b) {j : Nat} {r : Ref} (hr : R[j]? = some r) (hg : G[j]? = some true) : s.at r = none := by
  obtain ⟨k, x, h1, h2, h3, h4, h5, h6⟩ := h.refs j r hr
  have hn : ¬ (x.used = true ∧ r.gen = x.gen) := fun q => by have := h5.2 q; rw [hg] at this; cases this
  rw [at_of h1 h2, if_neg fun q => hn ⟨q.1, q.2.symm⟩]

theorem own_new (n : Nat) : OwnI (Sto.new n) [] [] 0 := by
  refine ⟨rfl, fun k x hx => ?_, fun j r hr => by simp at hr⟩
  simp only [Sto.new] at hx
  have := List.mem_of_getElem? hx
  rw [List.mem_replicate] at this
  rw [this.2]
  exact ⟨by simp, by simp⟩

theorem OwnI.take {s : Sto} {R : List Ref} {G : List Bool} {b : Int} (h : OwnI s R G b) {x : Slot} (hx : s.slots[s.free]? = some x) (e : Evt) (he : e.k = R.length) (u l : Int) :
    OwnI ⟨s.slots.set s.free ⟨x.gen, true, e, 1⟩, u, l⟩ (R ++ [⟨s.free, x.gen⟩]) (G ++ [false]) b := by
  have hlt := (List.getElem?_eq_some_iff.1 hx).1
  have hu : x.used = false := by
    have h2 : s.slots[s.free] = x := (List.getElem?_eq_some_iff.1 hx).2
    have := List.findIdx_getElem (xs := s.slots) (p := fun x : Slot => !x.used) (w := hlt)
    have h3 : (!(s.slots[s.free]).used) = true := this
    rw [h2] at h3
    simpa using h3
  refine ⟨by simp [h.len], fun k y hy => ?_, fun j r hr => ?_⟩
  · by_cases e : s.free = k
    · subst e
      rw [List.getElem?_set_self hlt] at hy
      cases hy
      exact h.gen _ x hx
    · rw [List.getElem?_set_ne e] at hy
      exact h.gen _ _ hy
  · rcases Nat.lt_or_ge j R.length with q | q
    · rw [List.getElem?_append_left q] at hr
      obtain ⟨k, y, h1, h2, h3, h4, h5, h6⟩ := h.refs j r hr
      have hG : (G ++ [false])[j]? = G[j]? := List.getElem?_append_left (by rw [← h.len]; exact q)
      by_cases e : s.free = k
      · subst e
        rw [hx] at h2; cases h2
        have hlt2 := h4 hu
        refine ⟨s.free, ⟨x.gen, true, e, 1⟩, h1, List.getElem?_set_self hlt, h3, fun q => (by cases q), ?_, fun q => ?_⟩
        · rw [hG]
          constructor
          · intro q; have := (h5.1 q).1; rw [hu] at this; cases this
          · rintro ⟨_, q⟩; simp at q; omega
        · have := q.2; simp at this; omega
      · exact ⟨k, y, h1, by rw [List.getElem?_set_ne e]; exact h2, h3, h4, by rw [hG]; exact h5, h6⟩
    · have : j = R.length := by
        have := (List.getElem?_eq_some_iff.1 hr).1
        simp at this; omega
      subst this
      simp at hr
      subst hr
      refine ⟨s.free, ⟨x.gen, true, e, 1⟩, rfl, List.getElem?_set_self hlt, by simp, fun q => (by cases q), ?_, fun _ => by simp [he]⟩
      rw [h.len]; simp

theorem OwnI.add {s : Sto} {R : List Ref} {G : List Bool} {b : Int} (h : OwnI s R G b) {i : Nat} {x : Slot} (hx : s.slots[i]? = some x) (c u l : Int) : OwnI ⟨s.slots.set i { x with count := c }, u, l⟩ R G b := by
  have hlt := (List.getElem?_eq_some_iff.1 hx).1
  refine ⟨h.len, fun k y hy => ?_, fun j r hr => ?_⟩
  · by_cases e : i = k
    · subst e
      rw [List.getElem?_set_self hlt] at hy
      cases hy
      exact h.gen _ x hx
    · rw [List.getElem?_set_ne e] at hy
      exact h.gen _ _ hy
  · obtain ⟨k, y, h1, h2, h3, h4, h5, h6⟩ := h.refs j r hr
    by_cases e : i = k
    · subst e
      rw [hx] at h2; cases h2
      exact ⟨i, { x with count := c }, h1, List.getElem?_set_self hlt, h3, h4, h5, h6⟩
    · exact ⟨k, y, h1, by rw [List.getElem?_set_ne e]; exact h2, h3, h4, h5, h6⟩

theorem OwnI.freed {s : Sto} {R : List Ref} {G : List Bool} {b : Int} (h : OwnI s R G b) {i j : Nat} {x : Slot} {r : Ref} (hr : R[j]? = some r) (hi : r.slot = i) (hx : s.slots[i]? = some x) (hu : x.used = true) (hg : x.gen = r.gen) (u l : Int) : OwnI ⟨s.slots.set i ⟨x.gen + 1, false, Evt.zero, 0⟩, u, l⟩ R (G.set j true) (b + 1) := by
  have hlt := (List.getElem?_eq_some_iff.1 hx).1
  have hj : j < G.length := by rw [← h.len]; exact (List.getElem?_eq_some_iff.1 hr).1
  obtain ⟨k0, y0, p1, p2, p3, p4, p5, p6⟩ := h.refs j r hr
  have : k0 = i := by omega
  subst this
  rw [hx] at p2; cases p2
  have hkj := p6 ⟨hu, hg.symm⟩
  refine ⟨by simp [h.len], fun k y hy => ?_, fun j' r' hr' => ?_⟩
  · by_cases e : k0 = k
    · subst e
      rw [List.getElem?_set_self hlt] at hy
      cases hy
      have := h.gen _ _ hx
      simp; omega
    · rw [List.getElem?_set_ne e] at hy
      have := h.gen _ _ hy
      omega
  · obtain ⟨k, y, h1, h2, h3, h4, h5, h6⟩ := h.refs j' r' hr'
    by_cases e : k0 = k
    · subst e
      rw [hx] at h2; cases h2
      refine ⟨k0, ⟨x.gen + 1, false, Evt.zero, 0⟩, h1, List.getElem?_set_self hlt, by simp; omega, fun _ => by simp; omega, ?_, fun q => (by cases q.1)⟩
      constructor
      · intro q
        by_cases ej : j = j'
        · subst ej
          rw [List.getElem?_set_self hj] at q; cases q
        · rw [List.getElem?_set_ne ej] at q
          have := h6 (h5.1 q)
          omega
      · rintro ⟨q, _⟩; cases q
    · refine ⟨k, y, h1, by rw [List.getElem?_set_ne e]; exact h2, h3, h4, ?_, h6⟩
      by_cases ej : j = j'
      · subst ej
        rw [hr] at hr'; cases hr'
        omega
      · rw [List.getElem?_set_ne ej]; exact h5

theorem arr_gen {h : Hp} {id g : Nat} {a : Arr} (e : h.arr id g = some a) : a.gen = g := by
  unfold Hp.arr at e
  split at e
  · split at e
    · cases e; assumption
    · cases e
  · cases e

/-- Where the law stands: the store, the refs, and which are gone. -/
structure OwnA (n z y : Nat) (xs : List PD) (i b : Nat) (s : Sto) (R : List Ref) (G : List Bool) (g1 g2 : Nat) (fr : Fr) (h : Hp) : Prop where
  rl : R.length ≤ b
  own : OwnI s R G b
  sl : s.slots.length = n
  f1 : fr.get 1 = .p (.list xs)
  f5 : fr.get 5 = eB true
  f7 : fr.get 7 = .ptr (z + 1) 0 0 0
  f8 : fr.get 8 = .arr y g1 2 0 R.length false
  f9 : fr.get 9 = .arr (y + 1) g2 1 0 G.length false
  f10 : fr.get 10 = eI i
  st : StoAt h (z + 1) z s
  ra : h.arr y g1 = some ⟨g1, 2, true, 0, R.map Ref.cells⟩
  ga : h.arr (y + 1) g2 = some ⟨g2, 1, false, 0, G.map fun b => [eB b]⟩
  lim1 : h.lim ≤ y
  lim : h.lim ≤ h.objs.length
  lt : z + 1 < y

theorem storeOwn_ok (a : Int) (xs : List PD) (hx : ∀ x ∈ xs, ∃ k t n, x = .agg [.int .i64 k, .int .i64 t, .int .i64 n]) (h : Hp) : C0 n_StoreOwn [eI a, .p (.list xs)] h = some (eB true, h) := by
  refine call_loc noExt_mono (f := n_StoreOwn) rfl rfl rfl fun h0 e0 el => ?_
  have aw := awake_ok h0
  unfold C0 at aw
  obtain ⟨n, hn, hn1⟩ : ∃ n : Nat, w64 (1 + a % 6) = n ∧ 1 ≤ n ∧ n ≤ 6 := ⟨(1 + a % 6).toNat, by rw [w64_eq (by omega) (by omega)]; omega, by omega, by omega⟩
  have r6 : ∀ (x : Int) (h : Hp), call prog noExt n_rest [eI x, eI 6] h = some (eI (x % 6), h) := fun x h => rest_ok x 6 h (by omega)
  have r4 : ∀ (x : Int) (h : Hp), call prog noExt n_rest [eI x, eI 4] h = some (eI (x % 4), h) := fun x h => rest_ok x 4 h (by omega)
  simp [aw, r6, show IntKind.i64.wrap (1 + a % 6) = n from hn]
  refine PutA_of (new_ok n h0 (by omega) (by omega)) ?_
  rintro v h1 ⟨rfl, H1, F1⟩
  have l1 := F1.limlen (by omega)
  have a1 := arr_lt H1.top
  simp
  refine Run_loop (fun m fr h' => ∃ (i : Nat) (s : Sto) (R : List Ref) (G : List Bool) (g1 g2 : Nat), i ≤ 60 ∧ m = 60 - i ∧ OwnA n h0.objs.length h1.objs.length xs i i s R G g1 g2 fr h') (n := 60) ?_ ?_
  · exact ⟨0, Sto.new n, [], [], 0, 0, by omega, by omega, by simp, own_new n, by simp [Sto.new], by simp, by simp, by simp, by simp, by simp, by simp,
      H1.fwd (ids := []) (by repeat first | exact Fwd.refl _ _ | refine Fwd.set ?_ _ (by simp) | refine Fwd.new ?_ _) (by simp) (by simp), by simp, by simp, by simpa using l1, by simp; omega, a1⟩
  generalize h0.objs.length = z at *
  generalize h1.objs.length = y at *
  clear H1 F1 l1 a1
  · rintro m fr h2 ⟨i, s, R, G, g1, g2, hi, rfl, A⟩
    have ei : IntKind.i64.wrap ((i : Int) + 1) = ((i + 1 : Nat) : Int) := by rw [wrap64 (by omega) (by omega)]; omega
    by_cases hlt : i < xs.length
    · by_cases hi6 : i < 60
      · have hi7 : (i : Int) < 60 := by omega
        obtain ⟨kd, t, am, hx1⟩ : ∃ k t n, xs[i]? = some (.agg [.int .i64 k, .int .i64 t, .int .i64 n]) := by
          obtain ⟨k, t, n, hn⟩ := hx _ (List.getElem_mem hlt)
          exact ⟨k, t, n, by rw [List.getElem?_eq_getElem hlt, hn]⟩
        have hx2 : xs[i] = .agg [.int .i64 kd, .int .i64 t, .int .i64 am] := (List.getElem?_eq_some_iff.1 hx1).2
        have lg := A.own.len
        simp [A.f1, A.f5, A.f7, A.f8, A.f9, A.f10, hlt, hi6, hi7, hx1, hx2, A.lim, r6]
        have a2 := arr_lt A.st.top
        have b2 := arr_lt A.st.sl
        have c2 := arr_lt A.ra
        have d2 := arr_lt A.ga
        have hyz := A.lt
        refine Br_join (J := fun fr h' => ∃ (s : Sto) (R : List Ref) (G : List Bool) (g1 g2 : Nat), OwnA n z y xs i (i + 1) s R G g1 g2 fr h') ?_ ?_
        · have F3 : ∀ ids, Fwd ids h2 ((h2.new (.cells ⟨0, 3, true, 0, [[eI 0, eI 0, eI 0]]⟩)).setArr h2.objs.length ⟨0, 3, true, 0, [[.p (.int .i64 kd), .p (.int .i64 t), .p (.int .i64 am)]]⟩) := fun ids => ((Fwd.refl _ _).new _).set _ (by simp)
          by_cases hk : kd % 6 < 2
          · simp [hk, A.f7, A.f8]
            refine PutA_of (take_ok (A.st.fwd (F3 []) (by simp) (by simp)) (by have := A.sl; omega) ⟨0, R.length, 0, 0, 0, 0⟩) ?_
            rintro v h3 ⟨rfl, H3, F4⟩
            have l3 := F4.limlen (by have := A.lim; simp; omega)
            have R3 := F4.arr ((F3 []).arr A.ra (by simp)) (by simp; omega)
            have G3 := F4.arr ((F3 []).arr A.ga (by simp)) (by simp; omega)
            have a3 := arr_lt H3.top
            have b3 := arr_lt H3.sl
            have c3 := arr_lt R3
            have d3 := arr_lt G3
            have lr3 : h3.lim ≤ y := by rw [F4.lim]; exact A.lim1
            have q1 : z + 1 ≠ y ∧ z ≠ y ∧ z + 1 ≠ y + 1 ∧ z ≠ y + 1 := by omega
            cases hx3 : s.slots[s.free]? with
            | none =>
              have ht : s.take ⟨0, R.length, 0, 0, 0, 0⟩ = (⟨0, 0⟩, false, s) := by simp [Sto.take, hx3]
              rw [ht] at H3 ⊢
              simp [Ref.cells, l3, A.f1, A.f5, A.f7, A.f8, A.f9, A.f10]
              have F5 : ∀ ids, Fwd ids h3 ((h3.new (.cells ⟨0, 2, true, 0, [[eI 0, eI 0]]⟩)).setArr h3.objs.length ⟨0, 2, true, 0, [[eI 0, eI 0]]⟩) := fun ids => ((Fwd.refl _ _).new _).set _ (by simp)
              exact ⟨s, R, G, g1, g2, by have := A.rl; omega, A.own.mono (by omega), A.sl, by simp [A.f1], by simp [A.f5], by simp [A.f7], by simp [A.f8], by simp [A.f9], by simp [A.f10], H3.fwd (F5 []) (by simp) (by simp), (F5 []).arr R3 (by simp), (F5 []).arr G3 (by simp), lr3, by simp; omega, hyz⟩
            | some x =>
              have ht : s.take ⟨0, R.length, 0, 0, 0, 0⟩ = (⟨s.free, x.gen⟩, true, ⟨s.slots.set s.free ⟨x.gen, true, ⟨0, R.length, 0, 0, 0, 0⟩, 1⟩, w64 (s.used + 1), w64 (s.live + 1)⟩) := by simp [Sto.take, hx3]
              rw [ht] at H3 ⊢
              simp [Ref.cells, l3, A.f1, A.f5, A.f7, A.f8, A.f9, A.f10]
              refine PutA_eq (append_own (els := R.map Ref.cells) (ys := [[eI s.free, eI x.gen]]) (by simp [nl c3, R3]) (by simp) (by simp [elsOf]) (by simp) (by simpa using lr3) (by have := A.rl; simp; omega)) ?_
              simp [A.f1, A.f5, A.f7, A.f8, A.f9, A.f10]
              refine PutA_eq (append_own (els := G.map fun b => [eB b]) (ys := [[eB false]]) (by simp [nl c3, nl d3, G3]) (by simp) (by simp [elsOf]) (by simp) (by simp; omega) (by have := A.rl; simp; omega)) ?_
              simp [A.f1, A.f5, A.f7, A.f8, A.f9, A.f10]
              refine ⟨⟨s.slots.set s.free ⟨x.gen, true, ⟨0, R.length, 0, 0, 0, 0⟩, 1⟩, w64 (s.used + 1), w64 (s.live + 1)⟩, R ++ [⟨s.free, x.gen⟩], G ++ [false], g1 + 1, g2 + 1, by have := A.rl; simp; omega, (A.own.take hx3 _ rfl _ _).mono (by omega), by simpa using A.sl, by simp [A.f1], by simp [A.f5], by simp [A.f7], by simp, by simp, by simp [A.f10], ?_, ?_, ?_, by simpa using lr3, by simp; omega, hyz⟩
              · refine H3.fwd (ids := [y, y + 1]) (by repeat first | exact Fwd.refl _ _ | refine Fwd.set ?_ _ (by simp) | refine Fwd.new ?_ _) (by simp; omega) (by simp; omega)
              · simp [nl c3, nl d3, Ref.cells]
              · simp [nl c3, nl d3]
          · by_cases hR0 : 0 < R.length
            · obtain ⟨q, hq, hql⟩ : ∃ q : Nat, t % (R.length : Int) = q ∧ q < R.length := ⟨(t % (R.length : Int)).toNat, by have := Int.emod_nonneg t (show (R.length : Int) ≠ 0 by omega); omega, by have := Int.emod_nonneg t (show (R.length : Int) ≠ 0 by omega); have := Int.emod_lt_of_pos t (show (0 : Int) < R.length by omega); omega⟩
              have rq : ∀ (h : Hp), call prog noExt n_rest [eI t, eI R.length] h = some (eI q, h) := fun h => by rw [← hq]; exact rest_ok t R.length h (by have := A.rl; omega)
              have hR1 : (0 : Int) < R.length := by omega
              obtain ⟨r, hr⟩ : ∃ r, R[q]? = some r := ⟨_, List.getElem?_eq_getElem hql⟩
              have hr2 : R[q] = r := (List.getElem?_eq_some_iff.1 hr).2
              have hqg : q < G.length := by omega
              obtain ⟨gb, hg⟩ : ∃ b, G[q]? = some b := ⟨_, List.getElem?_eq_getElem hqg⟩
              have hg2 : G[q] = gb := (List.getElem?_eq_some_iff.1 hg).2
              by_cases hk4 : kd % 6 = 4
              · simp [hk4, hR0, hR1, A.f7, A.f8, rq, nl c2, nl a2, A.ra, hr, hr2, hql, Ref.cells]
                refine PutA_of (free_ok (A.st.fwd (F3 []) (by simp) (by simp)) r) ?_
                rintro v h3 ⟨rfl, H3, F4⟩
                have l3 := F4.limlen (by have := A.lim; simp; omega)
                have R3 := F4.arr ((F3 []).arr A.ra (by simp)) (by simp; omega)
                have G3 := F4.arr ((F3 []).arr A.ga (by simp)) (by simp; omega)
                have d3 := arr_lt G3
                have c3 := arr_lt R3
                have lr3 : h3.lim ≤ y + 1 := by rw [F4.lim]; have := A.lim1; simp; omega
                have lr4 : h3.lim ≤ y := by rw [F4.lim]; exact A.lim1
                have F5 : Fwd [y + 1] h3 (h3.setArr (y + 1) ⟨g2, 1, false, 0, (G.map fun b => [eB b]).set q [eB (gb || (s.freed r).1)]⟩) := (Fwd.refl _ _).set _ (by simp)
                have hO : OwnI (s.freed r).2 R (G.set q (gb || (s.freed r).1)) (i + 1 : Nat) ∧ (s.freed r).2.slots.length = n := by
                  have same : G.set q gb = G := by rw [← hg2]; exact List.set_getElem_self hqg
                  unfold Sto.freed
                  split
                  · simp only [Bool.or_false, same]
                    exact ⟨A.own.mono (by omega), A.sl⟩
                  · rename_i j x hj
                    obtain ⟨p1, p2, p3, p4, p5⟩ := Sto.at_some hj
                    split
                    · simp only [Bool.or_false, same]
                      exact ⟨A.own.mono (by omega), A.sl⟩
                    · have hgen := A.own.gen _ _ p2
                      rw [w64_eq (by omega) (by omega)]
                      refine ⟨?_, by simpa using A.sl⟩
                      have := A.own.freed hr p3 p2 p4 p5 (w64 (s.used - 1)) s.live
                      simpa using this
                cases gb with
                | true =>
                  simp [A.f1, A.f5, A.f7, A.f8, A.f9, A.f10, G3, hg, hg2, hqg, lr3]
                  exact ⟨(s.freed r).2, R, G.set q (true || (s.freed r).1), g1, g2, by have := A.rl; omega, hO.1, hO.2, by simp [A.f1], by simp [A.f5], by simp [A.f7], by simp [A.f8], by simp [A.f9], by simp [A.f10], H3.fwd F5 (by simp; omega) (by simp; omega), F5.arr R3 (by simp), by simp [d3], lr4, by simpa using l3, hyz⟩
                | false =>
                  simp [A.f1, A.f5, A.f7, A.f8, A.f9, A.f10, G3, hg, hg2, hqg, lr3]
                  exact ⟨(s.freed r).2, R, G.set q (false || (s.freed r).1), g1, g2, by have := A.rl; omega, hO.1, hO.2, by simp [A.f1], by simp [A.f5], by simp [A.f7], by simp [A.f8], by simp [A.f9], by simp [A.f10], H3.fwd F5 (by simp; omega) (by simp; omega), F5.arr R3 (by simp), by simp [d3], lr4, by simpa using l3, hyz⟩
              · have e2 : IntKind.i64.wrap (am % 4 - 2) = am % 4 - 2 := wrap64 (by omega) (by omega)
                simp [hk, hk4, hR0, hR1, A.f7, A.f8, rq, nl c2, nl a2, A.ra, hr, hr2, hql, Ref.cells, r4, e2]
                refine PutA_of (add_ok (A.st.fwd (F3 []) (by simp) (by simp)) r (am % 4 - 2)) ?_
                rintro v h3 ⟨rfl, H3, F4⟩
                have l3 := F4.limlen (by have := A.lim; simp; omega)
                have R3 := F4.arr ((F3 []).arr A.ra (by simp)) (by simp; omega)
                have G3 := F4.arr ((F3 []).arr A.ga (by simp)) (by simp; omega)
                have lr4 : h3.lim ≤ y := by rw [F4.lim]; exact A.lim1
                have hO : OwnI (s.add r (am % 4 - 2)).2.2 R G (i + 1 : Nat) ∧ (s.add r (am % 4 - 2)).2.2.slots.length = n := by
                  unfold Sto.add
                  split
                  · exact ⟨A.own.mono (by omega), A.sl⟩
                  · rename_i j x hj
                    obtain ⟨p1, p2, p3, p4, p5⟩ := Sto.at_some hj
                    split
                    · exact ⟨A.own.mono (by omega), A.sl⟩
                    · exact ⟨(A.own.add p2 _ _ _).mono (by omega), by simpa using A.sl⟩
                simp
                exact ⟨(s.add r (am % 4 - 2)).2.2, R, G, g1, g2, by have := A.rl; omega, hO.1, hO.2, by simp [A.f1], by simp [A.f5], by simp [A.f7], by simp [A.f8], by simp [A.f9], by simp [A.f10], H3, R3, G3, lr4, l3, hyz⟩
            · have hR1 : ¬ (0 : Int) < R.length := by omega
              simp [hk, A.f7, A.f8, hR0, hR1]
              exact ⟨s, R, G, g1, g2, by have := A.rl; omega, A.own.mono (by omega), A.sl, by simp [A.f1], by simp [A.f5], by simp [A.f7], by simp [A.f8], by simp [A.f9], by simp [A.f10], A.st.fwd (F3 []) (by simp) (by simp), (F3 []).arr A.ra (by simp), (F3 []).arr A.ga (by simp), A.lim1, by have := A.lim; simp; omega, hyz⟩
        · clear A a2 b2 c2 d2 lg
          rintro f h4 ⟨s, R, G, g1, g2, B⟩
          simp
          refine Run_loop (fun m f h' => ∃ j : Nat, j ≤ R.length ∧ m = R.length - j ∧ OwnA n z y xs i (i + 1) s R G g1 g2 f h' ∧ f.get 17 = eI j) (n := R.length) ?_ ?_
          · exact ⟨0, by omega, by omega, ⟨B.rl, B.own, B.sl, by simp [B.f1], by simp [B.f5], by simp [B.f7], by simp [B.f8], by simp [B.f9], by simp [B.f10], B.st, B.ra, B.ga, B.lim1, B.lim, B.lt⟩, by simp⟩
          · clear B
            rintro m f h5 ⟨j, hj, rfl, B, f17⟩
            have lg := B.own.len
            have hrl := B.rl
            by_cases hjl : j < R.length
            · have ej : IntKind.i64.wrap ((j : Int) + 1) = ((j + 1 : Nat) : Int) := by rw [wrap64 (by omega) (by omega)]; omega
              obtain ⟨r, hr⟩ : ∃ r, R[j]? = some r := ⟨_, List.getElem?_eq_getElem hjl⟩
              have hr2 : R[j] = r := (List.getElem?_eq_some_iff.1 hr).2
              have hqg : j < G.length := by omega
              obtain ⟨gb, hg⟩ : ∃ b, G[j]? = some b := ⟨_, List.getElem?_eq_getElem hqg⟩
              have hg2 : G[j] = gb := (List.getElem?_eq_some_iff.1 hg).2
              have gt := get_ok B.st.toStoRd r
              have a5 := arr_lt B.st.top
              have b5 := arr_lt B.st.sl
              have c5 := arr_lt B.ra
              have d5 := arr_lt B.ga
              have F5 : ∀ (e : List EV) ids, Fwd ids h5 ((h5.new (.cells ⟨0, 6, true, 0, [[eI 0, eI 0, eI 0, eI 0, eI 0, eI 0]]⟩)).setArr h5.objs.length ⟨0, 6, true, 0, [e]⟩) := fun e ids => ((Fwd.refl _ _).new _).set _ (by simp)
              cases gb with
              | false =>
                obtain ⟨k, x, hat, hk⟩ := B.own.live hr hg
                have hgt : s.get r = (x.ev, true) := by simp [Sto.get, hat]
                simp only [hgt, Ref.cells, Evt.cells, C0] at gt
                simp [B.f1, B.f5, B.f7, B.f8, B.f9, B.f10, f17, hjl, B.ra, hr, hr2, Ref.cells, gt, B.lim, nl d5, B.ga, hg, hg2, hqg, hk, ej]
                exact ⟨R.length - (j + 1), by omega, j + 1, by omega, rfl, ⟨B.rl, B.own, B.sl, by simp [B.f1], by simp [B.f5], by simp [B.f7], by simp [B.f8], by simp [B.f9], by simp [B.f10], B.st.fwd (F5 _ []) (by simp) (by simp), (F5 _ []).arr B.ra (by simp), (F5 _ []).arr B.ga (by simp), B.lim1, by have := B.lim; simp; omega, B.lt⟩, by omega⟩
              | true =>
                have hat := B.own.dead hr hg
                have hgt : s.get r = (Evt.zero, false) := by simp [Sto.get, hat]
                have hct : s.count r = 0 := by simp [Sto.count, hat]
                have hfr : s.freed r = (false, s) := by simp [Sto.freed, hat]
                simp only [hgt, Ref.cells, Evt.cells, Evt.zero, C0] at gt
                have ct := count_ok (B.st.toStoRd.fwd (F5 [eI 0, eI 0, eI 0, eI 0, eI 0, eI 0] []) (by simp) (by simp)) r
                simp only [hct, Ref.cells, C0] at ct
                simp [B.f1, B.f5, B.f7, B.f8, B.f9, B.f10, f17, hjl, B.ra, hr, hr2, Ref.cells, gt, B.lim, nl c5, nl d5, B.ga, hg, hg2, hqg, ct]
                refine PutA_of (free_ok (B.st.fwd (F5 _ []) (by simp) (by simp)) r) ?_
                rintro v h6 ⟨rfl, H6, F6⟩
                rw [hfr] at H6 ⊢
                simp [B.f1, B.f5, B.f7, B.f8, B.f9, B.f10, f17, ej]
                have hyz := B.lt
                exact ⟨R.length - (j + 1), by omega, j + 1, by omega, rfl, ⟨B.rl, B.own, B.sl, by simp [B.f1], by simp [B.f5], by simp [B.f7], by simp [B.f8], by simp [B.f9], by simp [B.f10], H6, F6.arr ((F5 _ []).arr B.ra (by simp)) (by simp; omega), F6.arr ((F5 _ []).arr B.ga (by simp)) (by simp; omega), by rw [F6.lim]; exact B.lim1, F6.limlen (by have := B.lim; simp; omega), B.lt⟩, by omega⟩
            · simp [B.f1, B.f5, B.f7, B.f8, B.f9, B.f10, f17, hjl, ei]
              exact ⟨60 - (i + 1), by omega, i + 1, by omega, rfl, s, R, G, g1, g2, ⟨B.rl, B.own, B.sl, by simp [B.f1], by simp [B.f5], by simp [B.f7], by simp [B.f8], by simp [B.f9], by simp, B.st, B.ra, B.ga, B.lim1, B.lim, B.lt⟩⟩
      · have hi7 : ¬ (i : Int) < 60 := by omega
        simp [A.f1, A.f5, A.f7, A.f8, A.f9, A.f10, hlt, hi6, hi7, Ends]
    · simp [A.f1, A.f5, A.f7, A.f8, A.f9, A.f10, hlt, Ends]

theorem acts_pt {xs : List PD} (hx : ∀ e ∈ xs, (if true = true then ∃ cs, e = .agg cs ∧ PTs [.int .i64, .int .i64, .int .i64] cs else PTs [.int .i64, .int .i64, .int .i64] [e])) : ∀ x ∈ xs, ∃ k t n, x = .agg [.int .i64 k, .int .i64 t, .int .i64 n] := by
  intro x hm
  have := hx x hm
  simp only [if_true, PTs, PT] at this
  obtain ⟨_, rfl, _, _, rfl, ⟨k, rfl, _⟩, _, _, rfl, ⟨t, rfl, _⟩, _, _, rfl, ⟨n, rfl, _⟩, rfl⟩ := this
  exact ⟨k, t, n, rfl⟩

theorem storeOwn_D : ∀ xss, Typed [([.int .i64], false), ([.slice [.int .i64, .int .i64, .int .i64] true], false)] xss → C0 n_StoreOwn (argsEV [([.int .i64], false), ([.slice [.int .i64, .int .i64, .int .i64] true], false)] xss) ⟨[], 0⟩ = some (eB true, ⟨[], 0⟩) := by
  intro xss h
  simp only [Typed, PTs] at h
  obtain ⟨_, _, rfl, ⟨_, _, rfl, ha, rfl⟩, ⟨_, _, rfl, ⟨_, _, rfl, hb, rfl⟩, rfl⟩⟩ := h
  simp only [PT] at ha
  obtain ⟨a, rfl, _⟩ := ha
  simp only [PT] at hb
  obtain ⟨xs, rfl, hl, hx⟩ := hb
  exact storeOwn_ok a xs (acts_pt hx) _

end Dk.A
