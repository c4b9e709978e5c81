/- The document's store: what its functions do, and how D's code does it. -/
import Derived.Test.YtcbigcpdbidlaaaAwake
set_option linter.unusedVariables false
set_option linter.unusedSimpArgs false
namespace Dk.A
open Go Dk

structure Itm where
  r : Ref
  e : Evt
  count : Int
  gone : Bool
def Itm.cells (x : Itm) : List EV := [eI x.r.slot, eI x.r.gen, eI x.e.t, eI x.e.k, eI x.e.a, eI x.e.b, eI x.e.c, eI x.e.d, eI x.count, eB x.gone]
structure RSto where
  n : Nat
  items : List Itm

/-- Where the items lie: nowhere yet, or in a row of one's own. -/
inductive ItmAt (h : Hp) : EV → List Nat → List Itm → Prop where
  | none : ItmAt h (.full []) [] []
  | row (rid g : Nat) (items : List Itm) (e : h.arr rid g = some ⟨g, 10, true, 0, items.map Itm.cells⟩) (l : h.lim ≤ rid) : ItmAt h (.arr rid g 10 0 items.length false) [rid] items
structure RAt (h : Hp) (id : Nat) (fp : List Nat) (m : RSto) : Prop where
  v : ∃ v fp', h.arr id 0 = some ⟨0, 2, true, 0, [[eI m.n, v]]⟩ ∧ ItmAt h v fp' m.items ∧ fp = id :: fp' ∧ id ∉ fp'
  lim : h.lim ≤ id

theorem ItmAt.fwd {h h' : Hp} {v : EV} {fp : List Nat} {items : List Itm} (H : ItmAt h v fp items) {ids : List Nat} (f : Fwd ids h h') (hd : ∀ i ∈ fp, i ∉ ids) : ItmAt h' v fp items := by
  cases H with
  | none => exact .none
  | row rid g items e l => exact .row rid g items (f.arr e (hd rid (by simp))) (by rw [f.lim]; exact l)
theorem RAt.fwd {h h' : Hp} {id : Nat} {fp : List Nat} {m : RSto} (H : RAt h id fp m) {ids : List Nat} (f : Fwd ids h h') (hd : ∀ i ∈ fp, i ∉ ids) : RAt h' id fp m := by
  obtain ⟨⟨v, fp', h1, h2, rfl, h4⟩, hl⟩ := H
  exact ⟨⟨v, fp', f.arr h1 (hd id (by simp)), h2.fwd f fun i hi => hd i (by simp [hi]), rfl, h4⟩, by rw [f.lim]; exact hl⟩
theorem RAt.lt {h : Hp} {id : Nat} {fp : List Nat} {m : RSto} (H : RAt h id fp m) : ∀ i ∈ fp, i < h.objs.length := by
  obtain ⟨⟨v, fp', h1, h2, rfl, h4⟩, hl⟩ := H
  obtain ⟨n, items⟩ := m
  simp only at h1 h2
  intro i hi
  rcases List.mem_cons.1 hi with rfl | hi
  · exact arr_lt h1
  · cases h2 with
    | none => cases hi
    | row rid g items e l => simp at hi; subst hi; exact arr_lt e

/-- The document's store, as it is read. -/
def RRd (h : Hp) (id : Nat) (m : RSto) : Prop := ∃ v, h.arr id 0 = some ⟨0, 2, true, 0, [[eI m.n, v]]⟩ ∧
    ((v = .full [] ∧ m.items = []) ∨ ∃ rid g, v = .arr rid g 10 0 m.items.length false ∧ h.arr rid g = some ⟨g, 10, true, 0, m.items.map Itm.cells⟩)
theorem RAt.rd {h : Hp} {id : Nat} {fp : List Nat} {m : RSto} (H : RAt h id fp m) : RRd h id m := by
  obtain ⟨⟨v, fp', h1, h2, rfl, h4⟩, hl⟩ := H
  obtain ⟨n, items⟩ := m
  simp only at h1 h2
  refine ⟨v, h1, ?_⟩
  cases h2 with
  | none => exact .inl ⟨rfl, rfl⟩
  | row rid g _ q l => exact .inr ⟨rid, g, rfl, q⟩
theorem RRd.fwd {h h' : Hp} {id : Nat} {m : RSto} (H : RRd h id m) (f : Fwd [] h h') : RRd h' id m := by
  obtain ⟨v, h1, h2⟩ := H
  refine ⟨v, f.arr h1 (by simp), h2.imp (fun q => q) ?_⟩
  rintro ⟨rid, g, e, q⟩
  exact ⟨rid, g, e, f.arr q (by simp)⟩
theorem RRd.objs {h h0 : Hp} {id : Nat} {m : RSto} (H : RRd h id m) (e : h0.objs = h.objs) : RRd h0 id m := by
  obtain ⟨v, h1, h2⟩ := H
  refine ⟨v, by rw [Hp.arr_objs e]; exact h1, h2.imp (fun q => q) ?_⟩
  rintro ⟨rid, g, e1, q⟩
  exact ⟨rid, g, e1, by rw [Hp.arr_objs e]; exact q⟩

def RSto.hit (r : Ref) (x : Itm) : Bool := decide (x.r = r) && !x.gone
def RSto.find (m : RSto) (r : Ref) : Nat := m.items.findIdx (RSto.hit r)
def RSto.findI (m : RSto) (r : Ref) : Int := if m.find r < m.items.length then m.find r else -1

theorem ref_eq (a b : Ref) : (decide (a.slot = b.slot) && decide (a.gen = b.gen)) = decide (a = b) := by
  cases a; cases b; simp

theorem rfind_ok {h : Hp} {id : Nat} {m : RSto} (H : RRd h id m) (hn : m.items.length ≤ 1000000) (r : Ref) : C0 n_rfind [.ptr id 0 0 0, .agg r.cells] h = some (eI (m.findI r), h) := by
  refine call_loc noExt_mono (f := n_rfind) rfl rfl rfl fun h0 e0 el => ?_
  obtain ⟨v, h1', h2⟩ := H.objs e0
  have l1 := arr_lt h1'
  obtain ⟨n, items⟩ := m
  simp only at *
  rcases h2 with ⟨rfl, rfl⟩ | ⟨rid, g, rfl, e'⟩
  · simp only [Ref.cells]
    simp
    refine Run_loop (fun m fr h' => fr.get 5 = eI 0 ∧ fr.get 0 = .ptr id 0 0 0 ∧ h'.arr id 0 = some ⟨0, 2, true, 0, [[eI n, .full []]]⟩) (n := 0) ?_ ?_
    · exact ⟨by simp, by simp, by simp [nl l1, h1']⟩
    · rintro m fr h' ⟨f5, f0, q⟩
      simp [f5, f0, q, Ends, RSto.findI]
  · have l2 := arr_lt e'
    simp only [Ref.cells]
    simp
    refine Run_loop (fun m fr h' => ∃ k : Nat, k ≤ items.length ∧ m = items.length - k ∧ (∀ j x, j < k → items[j]? = some x → RSto.hit r x = false) ∧ fr.get 5 = eI k ∧ fr.get 0 = .ptr id 0 0 0 ∧ fr.get 3 = .ptr h0.objs.length 0 0 0 ∧ h' = h0.new (.cells ⟨0, 2, true, 0, [[eI r.slot, eI r.gen]]⟩)) (n := items.length) ?_ ?_
    · exact ⟨0, by omega, by omega, fun j x hj => by omega, by simp, by simp, by simp, rfl⟩
    · rintro m fr h' ⟨k, hk, rfl, hall, f5, f0, f3, rfl⟩
      by_cases hlt : k < items.length
      · obtain ⟨x, hx⟩ : ∃ x, items[k]? = some x := ⟨_, List.getElem?_eq_getElem hlt⟩
        have hx2 : items[k] = x := (List.getElem?_eq_some_iff.1 hx).2
        have ek : IntKind.i64.wrap ((k : Int) + 1) = ((k + 1 : Nat) : Int) := by rw [wrap64 (by omega) (by omega)]; omega
        have next : ∀ q : RSto.hit r x = false, ∀ j y, j < k + 1 → items[j]? = some y → RSto.hit r y = false := fun q j y hj hy => by
          by_cases e : j = k
          · subst e; rw [hx] at hy; cases hy; exact q
          · exact hall j y (by omega) hy
        by_cases hr : x.r = r
        · have hs : x.r.slot = r.slot ∧ x.r.gen = r.gen := by rw [hr]; exact ⟨rfl, rfl⟩
          cases hg : x.gone with
          | true =>
            simp [f5, f0, f3, h1', nl l1, nl l2, e', hlt, hx, hx2, Itm.cells, hs, hg, ek]
            exact ⟨items.length - (k + 1), by omega, k + 1, by omega, rfl, next (by simp [RSto.hit, hg]), by omega⟩
          | false =>
            have hf : RSto.find ⟨n, items⟩ r = k := by
              unfold RSto.find
              rw [List.findIdx_eq hlt]
              refine ⟨by rw [hx2]; simp [RSto.hit, hr, hg], fun j hj => ?_⟩
              have hjl : j < items.length := by omega
              have := hall j _ hj (List.getElem?_eq_getElem hjl)
              simp [this]
            simp [f5, f0, f3, h1', nl l1, nl l2, e', hlt, hx, hx2, Itm.cells, hs, hg, ek, Ends, RSto.findI, hf]
        · have hs : ¬ (x.r.slot = r.slot ∧ x.r.gen = r.gen) := fun q => hr (by cases hh : x.r; cases hq : r; simp_all)
          by_cases hs1 : x.r.slot = r.slot
          · have hs2 : ¬ x.r.gen = r.gen := fun q => hs ⟨hs1, q⟩
            simp [f5, f0, f3, h1', nl l1, nl l2, e', hlt, hx, hx2, Itm.cells, hs1, hs2, ek]
            exact ⟨items.length - (k + 1), by omega, k + 1, by omega, rfl, next (by simp [RSto.hit, hr]), by omega⟩
          · simp [f5, f0, f3, h1', nl l1, nl l2, e', hlt, hx, hx2, Itm.cells, hs1, ek]
            exact ⟨items.length - (k + 1), by omega, k + 1, by omega, rfl, next (by simp [RSto.hit, hr]), by omega⟩
      · have hf : RSto.find ⟨n, items⟩ r = items.length := by
          unfold RSto.find
          rw [List.findIdx_eq_length]
          intro x hx
          obtain ⟨j, hj, rfl⟩ := List.getElem_of_mem hx
          have hj' : j < items.length := hj
          exact hall j _ (by omega) (List.getElem?_eq_getElem hj)
        simp [f5, f0, f3, h1', nl l1, hlt, Ends, RSto.findI, hf]

def RSto.get (m : RSto) (r : Ref) : Evt × Bool :=
  match m.items[m.find r]? with
  | none => (Evt.zero, false)
  | some x => (x.e, true)
def RSto.count (m : RSto) (r : Ref) : Int :=
  match m.items[m.find r]? with
  | none => 0
  | some x => x.count
def RSto.add (m : RSto) (r : Ref) (n : Int) : Int × Bool × RSto :=
  match m.items[m.find r]? with
  | none => (0, false, m)
  | some x =>
    if x.count = 0 ∨ n < w64 (0 - x.count) ∨ w64 (1099511627776 - x.count) < n then (0, false, m) else
    (w64 (x.count + n), true, ⟨m.n, m.items.set (m.find r) { x with count := w64 (x.count + n) }⟩)
def RSto.freed (m : RSto) (r : Ref) : Bool × RSto :=
  match m.items[m.find r]? with
  | none => (false, m)
  | some x => if 0 < x.count then (false, m) else (true, ⟨m.n, m.items.set (m.find r) { x with gone := true }⟩)

theorem find_none {m : RSto} {r : Ref} (h : m.items[m.find r]? = none) : m.findI r = -1 := by
  have : ¬ m.find r < m.items.length := by
    intro q
    rw [List.getElem?_eq_getElem q] at h; cases h
  simp [RSto.findI, this]
theorem find_some {m : RSto} {r : Ref} {x : Itm} (h : m.items[m.find r]? = some x) : m.findI r = m.find r ∧ m.find r < m.items.length := by
  have := (List.getElem?_eq_some_iff.1 h).1
  exact ⟨by simp [RSto.findI, this], this⟩

theorem rget_ok {h : Hp} {id : Nat} {m : RSto} (H : RRd h id m) (hn : m.items.length ≤ 1000000) (r : Ref) : C0 n_rGet [.ptr id 0 0 0, .agg r.cells] h = some (.tup [.agg (m.get r).1.cells, eB (m.get r).2], h) := by
  refine call_loc noExt_mono (f := n_rGet) rfl rfl (by simp [Evt.cells]) fun h0 e0 el => ?_
  have H0 := H.objs e0
  simp only [Ref.cells]
  simp
  refine PutA_eq (rfind_ok (H0.fwd (by repeat first | exact Fwd.refl _ _ | refine Fwd.new ?_ _)) hn r) ?_
  obtain ⟨v, h1, hv⟩ := H0
  have l1 := arr_lt h1
  cases hx : m.items[m.find r]? with
  | none =>
    simp [find_none hx, el, Ends, RSto.get, hx, Evt.cells, Evt.zero]
  | some x =>
    obtain ⟨e1, e2⟩ := find_some hx
    have hx2 : m.items[m.find r] = x := (List.getElem?_eq_some_iff.1 hx).2
    rcases hv with ⟨rfl, hi⟩ | ⟨rid, g, rfl, q⟩
    · rw [hi] at e2; simp at e2
    · have l2 := arr_lt q
      have e3 : ¬ (m.find r : Int) < 0 := by omega
      simp [e1, e2, e3, el, Ends, RSto.get, hx, hx2, Evt.cells, h1, q, nl l1, nl l2, Itm.cells]

theorem rcount_ok {h : Hp} {id : Nat} {m : RSto} (H : RRd h id m) (hn : m.items.length ≤ 1000000) (r : Ref) : C0 n_rCount [.ptr id 0 0 0, .agg r.cells] h = some (eI (m.count r), h) := by
  refine call_loc noExt_mono (f := n_rCount) rfl rfl rfl fun h0 e0 el => ?_
  have H0 := H.objs e0
  simp only [Ref.cells]
  simp
  refine PutA_eq (rfind_ok (H0.fwd (by repeat first | exact Fwd.refl _ _ | refine Fwd.new ?_ _)) hn r) ?_
  obtain ⟨v, h1, hv⟩ := H0
  have l1 := arr_lt h1
  cases hx : m.items[m.find r]? with
  | none =>
    simp [find_none hx, Ends, RSto.count, hx]
  | some x =>
    obtain ⟨e1, e2⟩ := find_some hx
    have hx2 : m.items[m.find r] = x := (List.getElem?_eq_some_iff.1 hx).2
    rcases hv with ⟨rfl, hi⟩ | ⟨rid, g, rfl, q⟩
    · rw [hi] at e2; simp at e2
    · have l2 := arr_lt q
      have e3 : ¬ (m.find r : Int) < 0 := by omega
      simp [e1, e2, e3, Ends, RSto.count, hx, hx2, h1, q, nl l1, nl l2, Itm.cells]

theorem RAt.setRow {h : Hp} {id rid g n0 : Nat} {items : List Itm} (h1 : h.arr id 0 = some ⟨0, 2, true, 0, [[eI n0, .arr rid g 10 0 items.length false]]⟩) (hr : rid < h.objs.length) (hne : id ≠ rid) (hl : h.lim ≤ id) (hl2 : h.lim ≤ rid) {els : List (List EV)} {items' : List Itm} (he : els = items'.map Itm.cells) (hlen : items'.length = items.length) :
    RAt (h.setArr rid ⟨g, 10, true, 0, els⟩) id [id, rid] ⟨n0, items'⟩ := by
  subst he
  refine ⟨⟨_, [rid], ?_, .row rid g items' ?_ ?_, rfl, by simpa using hne⟩, hl⟩
  · simp [hne, h1, hlen]
  · simp [hr]
  · exact hl2
theorem radd_ok {h : Hp} {id : Nat} {fp : List Nat} {m : RSto} (H : RAt h id fp m) (hn : m.items.length ≤ 1000000) (r : Ref) (n : Int) :
    WA (C0 n_rAdd [.ptr id 0 0 0, .agg r.cells, eI n] h) (fun v h' => v = .tup [eI (m.add r n).1, eB (m.add r n).2.1] ∧ RAt h' id fp (m.add r n).2.2 ∧ Fwd fp h h') := by
  refine call_W noExt_mono (f := n_rAdd) rfl rfl ?_
  simp only [Ref.cells]
  simp
  have F3 : ∀ ids, Fwd ids h (h.new (.cells ⟨0, 2, true, 0, [[eI r.slot, eI r.gen]]⟩)) := fun ids => (Fwd.refl _ _).new _
  have H3 := H.fwd (F3 []) (by simp)
  refine PutA_eq (rfind_ok H3.rd hn r) ?_
  cases hx : m.items[m.find r]? with
  | none =>
    simp [find_none hx, Ends, RSto.add, hx]
    exact ⟨H3, F3 _⟩
  | some x =>
    obtain ⟨e1, e2⟩ := find_some hx
    have hx2 : m.items[m.find r] = x := (List.getElem?_eq_some_iff.1 hx).2
    have e3 : ¬ (m.find r : Int) < 0 := by omega
    obtain ⟨⟨v, fp', h1, h2, rfl, h4⟩, hl⟩ := H
    generalize hf : m.find r = fi at *
    obtain ⟨n0, items⟩ := m
    simp only at *
    have l1 := arr_lt h1
    cases h2 with
    | none => simp at e2
    | row rid g _ q l =>
      have l2 := arr_lt q
      have hne : id ≠ rid := by simpa using h4
      by_cases hc0 : x.count = 0
      · simp [e1, e2, e3, hx2, hx, h1, q, nl l1, nl l2, Itm.cells, hc0, Ends, RSto.add, hf]
        exact ⟨H3, F3 _⟩
      by_cases hc1 : n < w64 (0 - x.count)
      · have hc1' : n < w64 (-x.count) := by simpa using hc1
        simp [e1, e2, e3, hx2, hx, h1, q, nl l1, nl l2, Itm.cells, hc0, hc1', Ends, RSto.add, hf]
        exact ⟨H3, F3 _⟩
      have hc1' : ¬ n < w64 (-x.count) := by simpa using hc1
      by_cases hc2 : w64 (1099511627776 - x.count) < n
      · simp [e1, e2, e3, hx2, hx, h1, q, nl l1, nl l2, Itm.cells, hc0, hc1', hc2, Ends, RSto.add, hf]
        exact ⟨H3, F3 _⟩
      · simp [e1, e2, e3, hx2, hx, h1, q, nl l1, nl l2, Itm.cells, hc0, hc1', hc2, Ends, RSto.add, hf, l, hne, hne.symm]
        refine ⟨RAt.setRow (h := h.new _) (items := items) (by simp [nl l1, h1]) (by simp; omega) hne hl l (by simp [List.map_set, Itm.cells]) (by simp), (F3 _).set _ (by simp)⟩

theorem rfree_ok {h : Hp} {id : Nat} {fp : List Nat} {m : RSto} (H : RAt h id fp m) (hn : m.items.length ≤ 1000000) (r : Ref) :
    WA (C0 n_rFree [.ptr id 0 0 0, .agg r.cells] h) (fun v h' => v = eB (m.freed r).1 ∧ RAt h' id fp (m.freed r).2 ∧ Fwd fp h h') := by
  refine call_W noExt_mono (f := n_rFree) rfl rfl ?_
  simp only [Ref.cells]
  simp
  have F3 : ∀ ids, Fwd ids h (h.new (.cells ⟨0, 2, true, 0, [[eI r.slot, eI r.gen]]⟩)) := fun ids => (Fwd.refl _ _).new _
  have H3 := H.fwd (F3 []) (by simp)
  refine PutA_eq (rfind_ok H3.rd hn r) ?_
  cases hx : m.items[m.find r]? with
  | none =>
    simp [find_none hx, Ends, RSto.freed, hx]
    exact ⟨H3, F3 _⟩
  | some x =>
    obtain ⟨e1, e2⟩ := find_some hx
    have hx2 : m.items[m.find r] = x := (List.getElem?_eq_some_iff.1 hx).2
    have e3 : ¬ (m.find r : Int) < 0 := by omega
    obtain ⟨⟨v, fp', h1, h2, rfl, h4⟩, hl⟩ := H
    generalize hf : m.find r = fi at *
    obtain ⟨n0, items⟩ := m
    simp only at *
    have l1 := arr_lt h1
    cases h2 with
    | none => simp at e2
    | row rid g _ q l =>
      have l2 := arr_lt q
      have hne : id ≠ rid := by simpa using h4
      by_cases hc0 : 0 < x.count
      · simp [e1, e2, e3, hx2, hx, h1, q, nl l1, nl l2, Itm.cells, hc0, Ends, RSto.freed, hf]
        exact ⟨H3, F3 _⟩
      · simp [e1, e2, e3, hx2, hx, h1, q, nl l1, nl l2, Itm.cells, hc0, Ends, RSto.freed, hf, l, hne, hne.symm]
        refine ⟨RAt.setRow (h := h.new _) (items := items) (by simp [nl l1, h1]) (by simp; omega) hne hl l (by simp [List.map_set, Itm.cells]) (by simp), (F3 _).set _ (by simp)⟩

def usedP (live : Bool) (x : Itm) : Bool := !x.gone && (!live || decide (0 < x.count))
def RSto.used (m : RSto) (live : Bool) : Nat := m.items.countP (usedP live)

theorem countP_take {α : Type} (p : α → Bool) {l : List α} {k : Nat} {x : α} (h : l[k]? = some x) : (l.take (k + 1)).countP p = (l.take k).countP p + if p x then 1 else 0 := by
  rw [List.take_add_one, h]
  simp [List.countP_append, List.countP_cons]

theorem rused_ok {h : Hp} {id : Nat} {m : RSto} (H : RRd h id m) (hn : m.items.length ≤ 1000000) (live : Bool) : C0 n_rUsed [.ptr id 0 0 0, eB live] h = some (eI (m.used live), h) := by
  refine call_loc noExt_mono (f := n_rUsed) rfl rfl rfl fun h0 e0 el => ?_
  obtain ⟨v, h1, hv⟩ := H.objs e0
  simp
  rcases hv with ⟨rfl, hi⟩ | ⟨rid, g, rfl, q⟩
  · refine Run_loop (fun m fr h' => fr.get 6 = eI 0 ∧ fr.get 0 = .ptr id 0 0 0 ∧ fr.get 5 = eI 0 ∧ h' = h0) (n := 0) ?_ ?_
    · exact ⟨by simp, by simp, by simp, rfl⟩
    · rintro m fr h' ⟨f6, f0, f5, rfl⟩
      simp [f6, f0, f5, h1, Ends, RSto.used, hi]
  · refine Run_loop (fun k fr h' => ∃ i : Nat, i ≤ m.items.length ∧ k = m.items.length - i ∧ fr.get 6 = eI i ∧ fr.get 0 = .ptr id 0 0 0 ∧ fr.get 1 = eB live ∧ fr.get 5 = eI ((m.items.take i).countP (usedP live) : Nat) ∧ h' = h0) (n := m.items.length) ?_ ?_
    · exact ⟨0, by omega, by omega, by simp, by simp, by simp, by simp, rfl⟩
    · rintro k fr h' ⟨i, hi, rfl, f6, f0, f1, f5, rfl⟩
      by_cases hlt : i < m.items.length
      · obtain ⟨x, hx⟩ : ∃ x, m.items[i]? = some x := ⟨_, List.getElem?_eq_getElem hlt⟩
        have hx2 : m.items[i] = x := (List.getElem?_eq_some_iff.1 hx).2
        have ei : IntKind.i64.wrap ((i : Int) + 1) = ((i + 1 : Nat) : Int) := by rw [wrap64 (by omega) (by omega)]; omega
        have hc := countP_take (usedP live) hx
        have hb : ((m.items.take i).countP (usedP live)) ≤ i := Nat.le_trans List.countP_le_length (by simp; omega)
        generalize ((m.items.take i).countP (usedP live)) = c at *
        have ec : IntKind.i64.wrap ((c : Int) + 1) = ((c + 1 : Nat) : Int) := by rw [wrap64 (by omega) (by omega)]; omega
        cases hg : x.gone with
        | true =>
          simp [f6, f0, f1, f5, h1, q, hlt, hx, hx2, Itm.cells, hg, ei]
          exact ⟨m.items.length - (i + 1), by omega, i + 1, by omega, rfl, by omega, by rw [hc]; simp [usedP, hg]⟩
        | false =>
          cases live with
          | false =>
            simp [f6, f0, f1, f5, h1, q, hlt, hx, hx2, Itm.cells, hg, ei, ec]
            exact ⟨m.items.length - (i + 1), by omega, i + 1, by omega, rfl, by omega, by rw [hc]; simp [usedP, hg]⟩
          | true =>
            by_cases hct : 0 < x.count
            · simp [f6, f0, f1, f5, h1, q, hlt, hx, hx2, Itm.cells, hg, ei, ec, hct]
              exact ⟨m.items.length - (i + 1), by omega, i + 1, by omega, rfl, by omega, by rw [hc]; simp [usedP, hg, hct]⟩
            · simp [f6, f0, f1, f5, h1, q, hlt, hx, hx2, Itm.cells, hg, ei, ec, hct]
              exact ⟨m.items.length - (i + 1), by omega, i + 1, by omega, rfl, by omega, by rw [hc]; simp [usedP, hg, hct]⟩
      · have : i = m.items.length := by omega
        subst this
        simp [f6, f0, f1, f5, h1, Ends, RSto.used]

def goneStep (k : Nat) (f : Bool) (x : Itm) : Bool := if x.r.slot = k then x.gone else f
def lastGone (k : Nat) (l : List Itm) : Bool := l.foldl (goneStep k) true
def ofSlot (k : Nat) (x : Itm) : Bool := decide (x.r.slot = k)
def genOf (k : Nat) (l : List Itm) : Nat := l.countP (ofSlot k)
def RSto.free (m : RSto) : Nat := (List.range m.n).findIdx fun k => lastGone k m.items
def RSto.take (m : RSto) (e : Evt) : Ref × Bool × RSto :=
  if m.free < m.n then (⟨m.free, genOf m.free m.items⟩, true, ⟨m.n, m.items ++ [⟨⟨m.free, genOf m.free m.items⟩, e, 1, false⟩]⟩) else (⟨0, 0⟩, false, m)

theorem gone_take {l : List Itm} {i k : Nat} {x : Itm} (h : l[i]? = some x) : lastGone k (l.take (i + 1)) = goneStep k (lastGone k (l.take i)) x := by
  unfold lastGone
  rw [List.take_add_one, h]
  simp [List.foldl_append]

theorem rfree_stop {m : RSto} {k : Nat} (hk : k < m.n) (hall : ∀ j, j < k → lastGone j m.items = false) (hx : lastGone k m.items = true) : m.free = k := by
  unfold RSto.free
  rw [List.findIdx_eq (by simpa using hk)]
  refine ⟨by simpa using hx, fun j hj => by simpa using hall j hj⟩
theorem rfree_none {m : RSto} (hall : ∀ j, j < m.n → lastGone j m.items = false) : m.free = m.n := by
  have : m.free = (List.range m.n).length := by
    unfold RSto.free
    rw [List.findIdx_eq_length]
    intro x hx
    simpa using hall x (by simpa using hx)
  simpa using this

theorem rtake_ok {h : Hp} {id : Nat} {fp : List Nat} {m : RSto} (H : RAt h id fp m) (hn : m.items.length ≤ 1000000) (hn2 : m.n ≤ 4096) (e : Evt) :
    WA (C0 n_rTake [.ptr id 0 0 0, .agg e.cells] h) (fun v h' => v = .tup [.agg (m.take e).1.cells, eB (m.take e).2.1] ∧ (∃ fp', RAt h' id fp' (m.take e).2.2 ∧ ∀ i ∈ fp', i ∈ fp ∨ h.objs.length ≤ i) ∧ Fwd fp h h') := by
  refine call_W noExt_mono (f := n_rTake) rfl rfl ?_
  have hfl := H.lt
  have hL : h.lim ≤ h.objs.length := by have := H.lim; obtain ⟨⟨v, fp', h1, _⟩, _⟩ := H; have := arr_lt h1; omega
  simp only [Evt.cells]
  simp
  generalize hh : (h.new (.cells ⟨0, 6, true, 0, [[eI e.t, eI e.k, eI e.a, eI e.b, eI e.c, eI e.d]]⟩)).new (.cells ⟨0, 2, true, 0, [[eI 0, eI 0]]⟩) = h3
  have F3 : ∀ ids, Fwd ids h h3 := fun ids => by subst hh; exact ((Fwd.refl _ _).new _).new _
  have B3 : h3.arr h.objs.length 0 = some ⟨0, 6, true, 0, [e.cells]⟩ := by subst hh; simp [Evt.cells]
  have D3 : h3.arr (h.objs.length + 1) 0 = some ⟨0, 2, true, 0, [[eI 0, eI 0]]⟩ := by subst hh; simp
  have H3 := H.fwd (F3 []) (by simp)
  have L3 : h3.lim ≤ h3.objs.length := (F3 []).limlen hL
  have lim3 : h3.lim = h.lim := (F3 []).lim
  clear hh
  have c3 := arr_lt B3
  have d3 := arr_lt D3
  obtain ⟨⟨v, fp1, h1, hat, hfp, hnf⟩, hlim⟩ := H3
  have hv : (v = .full [] ∧ m.items = []) ∨ ∃ rid g, v = .arr rid g 10 0 m.items.length false ∧ h3.arr rid g = some ⟨g, 10, true, 0, m.items.map Itm.cells⟩ := by
    generalize m.items = its at hat
    cases hat with
    | none => exact .inl ⟨rfl, rfl⟩
    | row rid g _ q l => exact .inr ⟨rid, g, rfl, q⟩
  refine Run_loop (fun q fr h' => ∃ k : Nat, k ≤ m.n ∧ q = m.n - k ∧ (∀ j, j < k → lastGone j m.items = false) ∧ fr.get 6 = eI k ∧ fr.get 0 = .ptr id 0 0 0 ∧ fr.get 3 = .ptr h.objs.length 0 0 0 ∧ fr.get 4 = .ptr (h.objs.length + 1) 0 0 0 ∧ h' = h3) (n := m.n) ?_ ?_
  · exact ⟨0, by omega, by omega, fun j hj => by omega, by simp, by simp, by simp, by simp, rfl⟩
  · rintro q fr h' ⟨k, hk, rfl, hall, f6, f0, f3, f4, hq⟩
    subst hq
    by_cases hkn : k < m.n
    · have ek : IntKind.i64.wrap ((k : Int) + 1) = ((k + 1 : Nat) : Int) := by rw [wrap64 (by omega) (by omega)]; omega
      simp [f6, f0, f3, f4, h1, hkn]
      refine Run_loop (fun q fr h'' => ∃ i : Nat, i ≤ m.items.length ∧ q = m.items.length - i ∧ fr.get 6 = eI k ∧ fr.get 0 = .ptr id 0 0 0 ∧ fr.get 3 = .ptr h.objs.length 0 0 0 ∧ fr.get 4 = .ptr (h.objs.length + 1) 0 0 0 ∧ fr.get 9 = eI i ∧ fr.get 7 = eI (genOf k (m.items.take i) : Nat) ∧ fr.get 8 = eB (lastGone k (m.items.take i)) ∧ h'' = h') (n := m.items.length) ?_ ?_
      · exact ⟨0, by omega, by omega, by simp [f6], by simp [f0], by simp [f3], by simp [f4], by simp, by simp [genOf], by simp [lastGone], rfl⟩
      · rintro q fr h'' ⟨i, hi, rfl, f6, f0, f3, f4, f9, f7, f8, hq⟩
        subst hq
        by_cases hlt : i < m.items.length
        · obtain ⟨x, hx⟩ : ∃ x, m.items[i]? = some x := ⟨_, List.getElem?_eq_getElem hlt⟩
          have hx2 : m.items[i] = x := (List.getElem?_eq_some_iff.1 hx).2
          have ei : IntKind.i64.wrap ((i : Int) + 1) = ((i + 1 : Nat) : Int) := by rw [wrap64 (by omega) (by omega)]; omega
          rcases hv with ⟨rfl, hi0⟩ | ⟨rid, g, rfl, q⟩
          · rw [hi0] at hlt; simp at hlt
          · have hc : genOf k (m.items.take (i + 1)) = genOf k (m.items.take i) + if ofSlot k x = true then 1 else 0 := countP_take (ofSlot k) hx
            have hg := gone_take (k := k) hx
            have hb : genOf k (m.items.take i) ≤ i := Nat.le_trans List.countP_le_length (by simp; omega)
            generalize genOf k (m.items.take i) = c at *
            generalize lastGone k (m.items.take i) = lg at *
            have ec : IntKind.i64.wrap ((c : Int) + 1) = ((c + 1 : Nat) : Int) := by rw [wrap64 (by omega) (by omega)]; omega
            by_cases hs : x.r.slot = k
            · simp [f6, f0, f3, f4, f9, f7, f8, h1, q, hlt, hx, hx2, Itm.cells, hs, ei, ec]
              exact ⟨m.items.length - (i + 1), by omega, i + 1, by omega, rfl, by omega, by rw [hc]; simp [ofSlot, hs], by rw [hg]; simp [goneStep, hs]⟩
            · simp [f6, f0, f3, f4, f9, f7, f8, h1, q, hlt, hx, hx2, Itm.cells, hs, ei, ec]
              exact ⟨m.items.length - (i + 1), by omega, i + 1, by omega, rfl, by omega, by rw [hc]; simp [ofSlot, hs], by rw [hg]; simp [goneStep, hs]⟩
        · have hin : i = m.items.length := by omega
          subst hin
          simp only [List.take_length] at f7 f8
          have exits : lenOf 0 v h'' = some m.items.length := by
            rcases hv with ⟨rfl, hi0⟩ | ⟨rid, g, rfl, q⟩
            · simp [hi0]
            · simp
          cases hg : lastGone k m.items with
          | false =>
            rw [hg] at f8
            simp [f6, f0, f3, f4, f9, f7, f8, h1, exits, ek]
            exact ⟨m.n - (k + 1), by omega, k + 1, by omega, rfl, fun j hj => by
              by_cases e : j = k
              · subst e; exact hg
              · exact hall j (by omega), by omega⟩
          | true =>
            have hf := rfree_stop hkn hall hg
            have ht : m.take e = (⟨k, genOf k m.items⟩, true, ⟨m.n, m.items ++ [⟨⟨k, genOf k m.items⟩, e, 1, false⟩]⟩) := by simp [RSto.take, hf, hkn]
            rw [hg] at f8
            have l1 := arr_lt h1
            simp [f6, f0, f3, f4, f9, f7, f8, h1, exits, nl l1, nl c3, nl d3, B3, D3, L3, Evt.cells]
            have lid : h.lim ≤ id := by rw [← lim3]; exact hlim
            have ln : h.lim ≤ h.objs.length + 1 := by omega
            have hlen : h.objs.length + 1 < h''.objs.length := d3
            have idn : id ≠ h.objs.length + 1 := fun q => by have := hfl id (by rw [hfp]; simp); omega
            obtain ⟨n0, items⟩ := m
            simp only at *
            cases hat with
            | none =>
              simp [appendTo, elsOf, sized, f6, f0, f3, f4, h1, nl l1, nl c3, nl d3, lim3, lid, ln, l1, idn, idn.symm, D3, Ends, ht, Ref.cells]
              rw [Hp.back_of lim3]
              refine ⟨⟨[id, h''.objs.length + 2], ⟨⟨.arr (h''.objs.length + 2) 0 10 0 1 false, [h''.objs.length + 2], ?_, ItmAt.row (h''.objs.length + 2) 0 [⟨⟨k, (genOf k [] : Nat)⟩, e, 1, false⟩] ?_ ?_, rfl, ?_⟩, ?_⟩, ?_⟩, ?_⟩
              · simp [nl l1, nl c3, nl d3, idn, l1]
              · have : ¬ h''.objs.length + 2 = h.objs.length + 1 := by omega
                have q2 : ¬ h''.objs.length + 1 = h.objs.length := by omega
                simp [nl l1, nl c3, nl d3, idn.symm, this, q2, Itm.cells]
              · simp; omega
              · simp [nl l1]
              · simpa [lim3] using lid
              · intro i hi
                rw [hfp]
                simp at hi ⊢
                omega
              · rw [hfp]
                have := F3 [id]
                repeat first | exact this | refine Fwd.set ?_ _ (by first | (simp; done) | (simp; omega)) | refine Fwd.new ?_ _
            | row rid g _ q l =>
              have lr : h.lim ≤ rid := by rw [← lim3]; exact l
              have l2 := arr_lt q
              have hne : id ≠ rid := by simpa using hnf
              have rn : rid ≠ h.objs.length + 1 := fun q => by have := hfl rid (by rw [hfp]; simp); omega
              refine PutA_eq (append_own (els := items.map Itm.cells) (ys := [[eI k, eI (genOf k items), eI e.t, eI e.k, eI e.a, eI e.b, eI e.c, eI e.d, eI 1, eB false]]) (by simp [nl l2, q]) (by simp) (by simp [elsOf]) (by simp) (by simpa [lim3] using lr) (by simp; omega)) ?_
              simp [f6, f0, f3, f4, h1, nl l1, nl l2, nl c3, nl d3, lim3, lid, ln, l1, hne, hne.symm, idn, idn.symm, rn, rn.symm, D3, Ends, ht, Ref.cells]
              rw [Hp.back_of lim3]
              refine ⟨⟨[id, rid], ⟨⟨.arr rid (g + 1) 10 0 (items.length + 1) false, [rid], ?_, ?_, rfl, by simpa using hne⟩, ?_⟩, ?_⟩, ?_⟩
              · simp [nl l1, nl c3, nl d3, idn, l1, hne]
              · have := ItmAt.row (h := (((((((h''.new (Obj.cells { gen := 0, sz := 2, ag := true, frz := 0, els := [[eI 0, eI 0]] })).setArr h''.objs.length { gen := 0, sz := 2, ag := true, frz := 0, els := [[EV.p (PD.int IntKind.i64 ↑k), EV.p (PD.int IntKind.i64 ↑(genOf k items))]] }).new (Obj.cells { gen := 0, sz := 10, ag := true, frz := 0, els := [[EV.p (PD.int IntKind.i64 ↑k), EV.p (PD.int IntKind.i64 ↑(genOf k items)), eI e.t, eI e.k, eI e.a, eI e.b, eI e.c, eI e.d, EV.p (PD.int IntKind.i64 1), eB false]] })).setArr rid { gen := g + 1, sz := 10, ag := true, frz := 0, els := List.map Itm.cells items ++ [[eI ↑k, eI ↑(genOf k items), eI e.t, eI e.k, eI e.a, eI e.b, eI e.c, eI e.d, eI 1, eB false]] }).setArr id { gen := 0, sz := 2, ag := true, frz := 0, els := [[eI ↑n0, EV.arr rid (g + 1) 10 0 (items.length + 1) false]] }).setArr (h.objs.length + 1) { gen := 0, sz := 2, ag := true, frz := 0, els := [[EV.p (PD.int IntKind.i64 ↑k), EV.p (PD.int IntKind.i64 ↑(genOf k items))]] }))) rid (g + 1) (items ++ [⟨⟨k, (genOf k items : Nat)⟩, e, 1, false⟩]) (by simp [nl l1, nl l2, nl c3, nl d3, rn, hne, hne.symm, Itm.cells]) (by simpa [lim3] using lr)
                simpa using this
              · simpa [lim3] using lid
              · intro i hi
                rw [hfp]
                exact .inl hi
              · rw [hfp]
                have := F3 [id, rid]
                repeat first | exact this | refine Fwd.set ?_ _ (by first | (simp; done) | (simp; omega)) | refine Fwd.new ?_ _
    · have : k = m.n := by omega
      subst this
      have hf := rfree_none hall
      have ht : m.take e = (⟨0, 0⟩, false, m) := by simp [RSto.take, hf]
      have hl0 : h'.lim ≤ h.objs.length + 1 := by omega
      simp [f6, f0, f3, f4, h1, D3, hl0, d3, Ends, ht, Hp.back_of lim3, Ref.cells]
      have H3 : RAt h' id fp m := ⟨⟨v, fp1, h1, hat, hfp, hnf⟩, hlim⟩
      refine ⟨⟨fp, H3.fwd (ids := [h.objs.length + 1]) ((Fwd.refl _ _).set _ (by simp)) (fun i hi => ?_), fun i hi => .inl hi⟩, (F3 _).set _ (by simp)⟩
      have := hfl i hi
      simp; omega

end Dk.A
