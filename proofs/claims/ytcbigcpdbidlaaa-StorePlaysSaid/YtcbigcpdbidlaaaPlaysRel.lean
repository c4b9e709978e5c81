/- The store and the document's go on alike. -/
import Derived.Test.YtcbigcpdbidlaaaRefStore
set_option linter.unusedVariables false
set_option linter.unusedSimpArgs false
namespace Dk.A
open Go Dk

structure Rel (s : Sto) (m : RSto) : Prop where
  n : m.n = s.slots.length
  gen : ∀ (k : Nat) (x : Slot), s.slots[k]? = some x → x.gen + (if x.used then 1 else 0) = (genOf k m.items : Nat) ∧ lastGone k m.items = !x.used
  live : ∀ (k : Nat) (x : Slot), s.slots[k]? = some x → x.used = true → ∃ i : Nat, m.items[i]? = some ⟨⟨k, x.gen⟩, x.ev, x.count, false⟩
  uniq : ∀ (i : Nat) (it : Itm), m.items[i]? = some it → it.gone = false → ∃ (k : Nat) (x : Slot), it.r = ⟨k, x.gen⟩ ∧ s.slots[k]? = some x ∧ x.used = true ∧ ∀ (j : Nat) (it' : Itm), m.items[j]? = some it' → it'.gone = false → it'.r = it.r → i = j
  cnt : ∀ it ∈ m.items, 0 ≤ it.count ∧ it.count ≤ 1099511627776
  used : s.used = (m.used false : Nat)
  lives : s.live = (m.used true : Nat)

theorem Rel.at_some {s : Sto} {m : RSto} (h : Rel s m) {r : Ref} {k : Nat} {x : Slot} (ha : s.at r = some (k, x)) : m.items[m.find r]? = some ⟨⟨k, x.gen⟩, x.ev, x.count, false⟩ ∧ r = ⟨k, x.gen⟩ := by
  obtain ⟨h1, h2, h3, h4, h5⟩ := Sto.at_some ha
  obtain ⟨i, hi⟩ := h.live k x h2 h4
  have hr : r = ⟨k, x.gen⟩ := by cases r; simp_all
  have hil := (List.getElem?_eq_some_iff.1 hi).1
  have hi2 := (List.getElem?_eq_some_iff.1 hi).2
  have hf : m.find r < m.items.length := by
    unfold RSto.find
    rw [List.findIdx_lt_length]
    exact ⟨m.items[i], List.getElem_mem hil, by rw [hi2]; simp [RSto.hit, hr]⟩
  have hh : RSto.hit r m.items[m.find r] = true := List.findIdx_getElem (w := hf)
  simp only [RSto.hit, Bool.and_eq_true, decide_eq_true_eq, Bool.not_eq_true'] at hh
  obtain ⟨_, _, _, _, _, hu⟩ := h.uniq i _ hi rfl
  have := hu (m.find r) _ (List.getElem?_eq_getElem hf) hh.2 (by rw [hh.1, hr])
  rw [← this]
  exact ⟨hi, hr⟩
theorem Rel.at_none {s : Sto} {m : RSto} (h : Rel s m) {r : Ref} (ha : s.at r = none) : m.items[m.find r]? = none := by
  cases hx : m.items[m.find r]? with
  | none => rfl
  | some it =>
    have hf := (List.getElem?_eq_some_iff.1 hx).1
    have hh : RSto.hit r m.items[m.find r] = true := List.findIdx_getElem (w := hf)
    rw [(List.getElem?_eq_some_iff.1 hx).2] at hh
    simp only [RSto.hit, Bool.and_eq_true, decide_eq_true_eq, Bool.not_eq_true'] at hh
    obtain ⟨k, x, h1, h2, h3, _⟩ := h.uniq _ it hx hh.2
    rw [hh.1] at h1
    subst h1
    rw [at_of' h2 h3] at ha
    cases ha
where
  at_of' {s : Sto} {k : Nat} {x : Slot} (h2 : s.slots[k]? = some x) (h3 : x.used = true) : s.at ⟨k, x.gen⟩ = some (k, x) := by
    have hk : k < s.slots.length := (List.getElem?_eq_some_iff.1 h2).1
    have hx : s.slots[k] = x := (List.getElem?_eq_some_iff.1 h2).2
    simp [Sto.at, hk, hx, h3]

theorem Rel.get {s : Sto} {m : RSto} (h : Rel s m) (r : Ref) : s.get r = m.get r ∧ s.count r = m.count r := by
  cases ha : s.at r with
  | none => simp [Sto.get, Sto.count, RSto.get, RSto.count, ha, h.at_none ha]
  | some kx =>
    obtain ⟨k, x⟩ := kx
    simp [Sto.get, Sto.count, RSto.get, RSto.count, ha, (h.at_some ha).1]

theorem countP_set {α : Type} (p : α → Bool) : ∀ {l : List α} {i : Nat} {x y : α}, l[i]? = some x → (l.set i y).countP p + (if p x then 1 else 0) = l.countP p + if p y then 1 else 0
  | [], i, x, y, h => by simp at h
  | a :: r, 0, x, y, h => by
    simp at h; subst h
    simp only [List.set_cons_zero, List.countP_cons]
    omega
  | a :: r, i + 1, x, y, h => by
    have := countP_set p (l := r) (i := i) (x := x) (y := y) (by simpa using h)
    simp only [List.set_cons_succ, List.countP_cons]
    omega

theorem gone_append (k : Nat) (l : List Itm) (x : Itm) : lastGone k (l ++ [x]) = goneStep k (lastGone k l) x := by
  simp [lastGone, List.foldl_append]
theorem gen_append (k : Nat) (l : List Itm) (x : Itm) : genOf k (l ++ [x]) = genOf k l + if ofSlot k x then 1 else 0 := by
  simp [genOf, List.countP_append, List.countP_cons]
theorem gen_set {k : Nat} {l : List Itm} {i : Nat} {x y : Itm} (h : l[i]? = some x) (hr : y.r = x.r) : genOf k (l.set i y) = genOf k l := by
  have := countP_set (ofSlot k) (y := y) h
  have e : ofSlot k y = ofSlot k x := by simp [ofSlot, hr]
  rw [e] at this
  unfold genOf
  omega
theorem gone_set_same {k : Nat} : ∀ {l : List Itm} {i : Nat} {x y : Itm}, l[i]? = some x → y.r = x.r → y.gone = x.gone → ∀ b, (l.set i y).foldl (goneStep k) b = l.foldl (goneStep k) b
  | [], i, x, y, h, _, _, b => by simp at h
  | a :: r, 0, x, y, h, h1, h2, b => by
    simp at h; subst h
    simp [goneStep, h1, h2]
  | a :: r, i + 1, x, y, h, h1, h2, b => by
    simp only [List.set_cons_succ, List.foldl_cons]
    exact gone_set_same (l := r) (i := i) (by simpa using h) h1 h2 _
theorem gone_set_other {k : Nat} : ∀ {l : List Itm} {i : Nat} {x y : Itm}, l[i]? = some x → y.r = x.r → x.r.slot ≠ k → ∀ b, (l.set i y).foldl (goneStep k) b = l.foldl (goneStep k) b
  | [], i, x, y, h, _, _, b => by simp at h
  | a :: r, 0, x, y, h, h1, h2, b => by
    simp at h; subst h
    simp [goneStep, h1, h2]
  | a :: r, i + 1, x, y, h, h1, h2, b => by
    simp only [List.set_cons_succ, List.foldl_cons]
    exact gone_set_other (l := r) (i := i) (by simpa using h) h1 h2 _
/-- If all that went ahead were gone, so is what is last. -/
theorem gone_all {k : Nat} : ∀ {l : List Itm} {b : Bool}, b = true → (∀ x ∈ l, x.r.slot = k → x.gone = true) → l.foldl (goneStep k) b = true
  | [], b, h, _ => h
  | a :: r, b, h, hr => by
    simp only [List.foldl_cons]
    refine gone_all ?_ fun x hx => hr x (by simp [hx])
    unfold goneStep
    split
    · exact hr a (by simp) ‹_›
    · exact h

theorem Rel.free {s : Sto} {m : RSto} (h : Rel s m) : s.free = m.free := by
  have hn := h.n
  by_cases hf : s.free < s.slots.length
  · have hx := List.getElem?_eq_getElem hf
    have hu : (s.slots[s.free]).used = false := by
      have := List.findIdx_getElem (xs := s.slots) (p := fun x : Slot => !x.used) (w := hf)
      have h3 : (!(s.slots[s.free]).used) = true := this
      simpa using h3
    refine (rfree_stop (by omega) (fun j hj => ?_) ?_).symm
    · have hjl : j < s.slots.length := by omega
      have := List.not_of_lt_findIdx (xs := s.slots) (p := fun x : Slot => !x.used) hj
      have h4 := (h.gen j _ (List.getElem?_eq_getElem hjl)).2
      rw [h4]
      simpa using this
    · rw [(h.gen _ _ hx).2, hu]; rfl
  · have hf2 : s.free = s.slots.length := Nat.le_antisymm (free_le s) (by omega)
    rw [hf2, ← hn]
    refine (rfree_none fun j hj => ?_).symm
    have hjl : j < s.slots.length := by omega
    have := List.not_of_lt_findIdx (xs := s.slots) (p := fun x : Slot => !x.used) (i := j) (by have : s.free = _ := hf2; unfold Sto.free at this; omega)
    have h4 := (h.gen j _ (List.getElem?_eq_getElem hjl)).2
    rw [h4]
    simpa using this

theorem Rel.take {s : Sto} {m : RSto} (h : Rel s m) (hb : m.items.length ≤ 1000) (e : Evt) : (s.take e).1 = (m.take e).1 ∧ (s.take e).2.1 = (m.take e).2.1 ∧ Rel (s.take e).2.2 (m.take e).2.2 := by
  have hf := h.free
  by_cases hlt : s.free < s.slots.length
  · have hx := List.getElem?_eq_getElem hlt
    generalize s.slots[s.free] = x at hx
    obtain ⟨g1, g2⟩ := h.gen _ x hx
    have hu : x.used = false := by
      have := List.findIdx_getElem (xs := s.slots) (p := fun x : Slot => !x.used) (w := hlt)
      have h3 : (!(s.slots[s.free]).used) = true := this
      rw [(List.getElem?_eq_some_iff.1 hx).2] at h3
      simpa using h3
    have hgen : x.gen = (genOf s.free m.items : Nat) := by simpa [hu] using g1
    have hs : s.take e = (⟨s.free, x.gen⟩, true, ⟨s.slots.set s.free ⟨x.gen, true, e, 1⟩, w64 (s.used + 1), w64 (s.live + 1)⟩) := by simp [Sto.take, hx]
    have hm : m.take e = (⟨s.free, x.gen⟩, true, ⟨m.n, m.items ++ [⟨⟨s.free, x.gen⟩, e, 1, false⟩]⟩) := by
      have : m.free < m.n := by have := h.n; omega
      have this2 : s.free < m.n := by omega
      simp [RSto.take, this, this2, ← hf, hgen]
    rw [hs, hm]
    refine ⟨rfl, rfl, by simpa using h.n, fun k y hy => ?_, fun k y hy hyu => ?_, fun i it hi hg => ?_, fun it hit => ?_, ?_, ?_⟩
    · by_cases ek : s.free = k
      · subst ek
        rw [List.getElem?_set_self hlt] at hy
        cases hy
        refine ⟨?_, ?_⟩
        · simp only [gen_append, ofSlot, decide_true, if_true, hgen]; omega
        · simp [gone_append, goneStep]
      · rw [List.getElem?_set_ne ek] at hy
        obtain ⟨q1, q2⟩ := h.gen k y hy
        have ek' : ¬ (s.free : Int) = k := by omega
        refine ⟨?_, ?_⟩
        · simp only [gen_append, ofSlot, ek', decide_false]; simpa using q1
        · simp only [gone_append, goneStep, ek', if_false]; exact q2
    · by_cases ek : s.free = k
      · subst ek
        rw [List.getElem?_set_self hlt] at hy
        cases hy
        exact ⟨m.items.length, by simp⟩
      · rw [List.getElem?_set_ne ek] at hy
        obtain ⟨i, hi⟩ := h.live k y hy hyu
        exact ⟨i, by rw [List.getElem?_append_left (List.getElem?_eq_some_iff.1 hi).1]; exact hi⟩
    · rcases Nat.lt_or_ge i m.items.length with q | q
      · rw [List.getElem?_append_left q] at hi
        obtain ⟨k, y, p1, p2, p3, p4⟩ := h.uniq i it hi hg
        have ek : s.free ≠ k := fun ek => by subst ek; rw [hx] at p2; cases p2; rw [hu] at p3; cases p3
        refine ⟨k, y, p1, by rw [List.getElem?_set_ne ek]; exact p2, p3, fun j it' hj hj2 hj3 => ?_⟩
        rcases Nat.lt_or_ge j m.items.length with q' | q'
        · rw [List.getElem?_append_left q'] at hj
          exact p4 j it' hj hj2 hj3
        · rw [List.getElem?_append_right q'] at hj
          have : j - m.items.length = 0 := by
            rcases Nat.eq_zero_or_pos (j - m.items.length) with e0 | e0
            · exact e0
            · rw [List.getElem?_eq_none (by simp; omega)] at hj; cases hj
          rw [this] at hj
          simp at hj
          subst hj
          rw [p1] at hj3
          simp at hj3
          omega
      · have : i = m.items.length := by
          have := (List.getElem?_eq_some_iff.1 hi).1
          simp at this; omega
        subst this
        simp at hi
        subst hi
        refine ⟨s.free, ⟨x.gen, true, e, 1⟩, rfl, List.getElem?_set_self hlt, rfl, fun j it' hj hj2 hj3 => ?_⟩
        rcases Nat.lt_or_ge j m.items.length with q' | q'
        · rw [List.getElem?_append_left q'] at hj
          obtain ⟨k, y, p1, p2, p3, _⟩ := h.uniq j it' hj hj2
          rw [p1] at hj3
          simp at hj3
          have ek : k = s.free := by omega
          subst ek
          rw [hx] at p2; cases p2
          rw [hu] at p3; cases p3
        · have := (List.getElem?_eq_some_iff.1 hj).1
          simp at this; omega
    · rcases List.mem_append.1 hit with hit | hit
      · exact h.cnt it hit
      · simp at hit; subst hit; simp
    · have hb2 : m.used false ≤ 1000 := Nat.le_trans List.countP_le_length hb
      show w64 (s.used + 1) = _
      rw [h.used, w64_eq (by omega) (by omega)]
      simp [RSto.used, List.countP_append, List.countP_cons, usedP]
    · have hb2 : m.used true ≤ 1000 := Nat.le_trans List.countP_le_length hb
      show w64 (s.live + 1) = _
      rw [h.lives, w64_eq (by omega) (by omega)]
      simp [RSto.used, List.countP_append, List.countP_cons, usedP]
  · have hx : s.slots[s.free]? = none := List.getElem?_eq_none (by omega)
    have hs : s.take e = (⟨0, 0⟩, false, s) := by simp [Sto.take, hx]
    have hm : m.take e = (⟨0, 0⟩, false, m) := by
      have : ¬ m.free < m.n := by have := h.n; omega
      simp [RSto.take, this]
    rw [hs, hm]
    exact ⟨rfl, rfl, h⟩

/-- One slot and its item are changed alike: neither's ref. -/
theorem Rel.change {s : Sto} {m : RSto} (h : Rel s m) {k i : Nat} {x : Slot} (hx : s.slots[k]? = some x) (hu : x.used = true) (hi : m.items[i]? = some ⟨⟨k, x.gen⟩, x.ev, x.count, false⟩) {c u l : Int} (hc : 0 ≤ c ∧ c ≤ 1099511627776)
    (hu2 : u = s.used) (hl2 : l + (if 0 < x.count then 1 else 0) = s.live + if 0 < c then 1 else 0) :
    Rel ⟨s.slots.set k { x with count := c }, u, l⟩ ⟨m.n, m.items.set i ⟨⟨k, x.gen⟩, x.ev, c, false⟩⟩ := by
  have hkl := (List.getElem?_eq_some_iff.1 hx).1
  have hil := (List.getElem?_eq_some_iff.1 hi).1
  have items : ∀ (j : Nat) (it : Itm), (m.items.set i ⟨⟨k, x.gen⟩, x.ev, c, false⟩)[j]? = some it → ∃ it0, m.items[j]? = some it0 ∧ it.r = it0.r ∧ it.gone = it0.gone ∧ (j ≠ i → it = it0) := by
    intro j it hj
    by_cases e : i = j
    · subst e
      rw [List.getElem?_set_self hil] at hj
      cases hj
      exact ⟨_, hi, rfl, rfl, fun q => absurd rfl q⟩
    · rw [List.getElem?_set_ne e] at hj
      exact ⟨it, hj, rfl, rfl, fun _ => rfl⟩
  refine ⟨by simpa using h.n, fun k' y hy => ?_, fun k' y hy hyu => ?_, fun j it hj hg => ?_, fun it hit => ?_, ?_, ?_⟩
  · have hg1 := gen_set (k := k') (y := ⟨⟨k, x.gen⟩, x.ev, c, false⟩) hi rfl
    have hg2 : lastGone k' (m.items.set i ⟨⟨k, x.gen⟩, x.ev, c, false⟩) = lastGone k' m.items := gone_set_same (y := ⟨⟨k, x.gen⟩, x.ev, c, false⟩) hi rfl rfl true
    simp only [hg1, hg2]
    by_cases e : k = k'
    · subst e
      rw [List.getElem?_set_self hkl] at hy
      cases hy
      exact h.gen k x hx
    · rw [List.getElem?_set_ne e] at hy
      exact h.gen k' y hy
  · by_cases e : k = k'
    · subst e
      rw [List.getElem?_set_self hkl] at hy
      cases hy
      exact ⟨i, List.getElem?_set_self hil⟩
    · rw [List.getElem?_set_ne e] at hy
      obtain ⟨j, hj⟩ := h.live k' y hy hyu
      have : i ≠ j := fun q => by subst q; rw [hi] at hj; simp at hj; omega
      exact ⟨j, by rw [List.getElem?_set_ne this]; exact hj⟩
  · obtain ⟨it0, p1, p2, p3, _⟩ := items j it hj
    obtain ⟨k', y, q1, q2, q3, q4⟩ := h.uniq j it0 p1 (by rw [← p3]; exact hg)
    have last : ∀ (j' : Nat) (it' : Itm), (m.items.set i ⟨⟨k, x.gen⟩, x.ev, c, false⟩)[j']? = some it' → it'.gone = false → it'.r = it.r → j = j' := fun j' it' hj' hg' hr' => by
      obtain ⟨it1, r1, r2, r3, _⟩ := items j' it' hj'
      exact q4 j' it1 r1 (by rw [← r3]; exact hg') (by rw [← r2, hr', p2])
    by_cases e : k = k'
    · subst e
      rw [hx] at q2; cases q2
      exact ⟨k, { x with count := c }, by rw [p2]; exact q1, List.getElem?_set_self hkl, q3, last⟩
    · exact ⟨k', y, by rw [p2]; exact q1, by rw [List.getElem?_set_ne e]; exact q2, q3, last⟩
  · rcases List.mem_or_eq_of_mem_set hit with hit | rfl
    · exact h.cnt it hit
    · exact hc
  · have := countP_set (usedP false) (y := ⟨⟨k, x.gen⟩, x.ev, c, false⟩) hi
    have h1 := h.used
    subst hu2
    simp only [RSto.used] at *
    simp only [usedP] at this
    simp at this
    rw [h1, this]
  · have := countP_set (usedP true) (y := ⟨⟨k, x.gen⟩, x.ev, c, false⟩) hi
    have h1 := h.lives
    simp only [RSto.used] at *
    have e1 : usedP true ⟨⟨k, x.gen⟩, x.ev, x.count, false⟩ = decide (0 < x.count) := by simp [usedP]
    have e2 : usedP true ⟨⟨k, x.gen⟩, x.ev, c, false⟩ = decide (0 < c) := by simp [usedP]
    rw [e1, e2] at this
    by_cases p : 0 < x.count <;> by_cases q : 0 < c <;> simp [p, q] at this hl2 ⊢ <;> omega

theorem Rel.add {s : Sto} {m : RSto} (h : Rel s m) (hb : m.items.length ≤ 1000) (r : Ref) (n : Int) : (s.add r n).1 = (m.add r n).1 ∧ (s.add r n).2.1 = (m.add r n).2.1 ∧ Rel (s.add r n).2.2 (m.add r n).2.2 ∧ (m.add r n).2.2.items.length = m.items.length := by
  cases ha : s.at r with
  | none => simp [Sto.add, RSto.add, ha, h.at_none ha, h]
  | some kx =>
    obtain ⟨k, x⟩ := kx
    obtain ⟨h1, h2⟩ := h.at_some ha
    obtain ⟨_, p2, p3, p4, p5⟩ := Sto.at_some ha
    simp only [Sto.add, RSto.add, ha, h1]
    have hc := h.cnt _ (List.mem_of_getElem? h1)
    simp only at hc
    by_cases hno : x.count = 0 ∨ n < w64 (0 - x.count) ∨ w64 (1099511627776 - x.count) < n
    · simp only [hno, if_true]
      exact ⟨trivial, trivial, h, trivial⟩
    · simp only [hno, if_false]
      have e1 : w64 (0 - x.count) = 0 - x.count := w64_eq (by omega) (by omega)
      have e2 : w64 (1099511627776 - x.count) = 1099511627776 - x.count := w64_eq (by omega) (by omega)
      rw [e1, e2] at hno
      have e3 : w64 (x.count + n) = x.count + n := w64_eq (by omega) (by omega)
      have hb2 : m.used true ≤ 1000 := Nat.le_trans List.countP_le_length hb
      have e4 : w64 (s.live - 1) = s.live - 1 := by rw [h.lives]; exact w64_eq (by omega) (by omega)
      rw [e3, e4]
      refine ⟨trivial, trivial, ?_, by simp⟩
      refine h.change p2 p4 h1 (c := x.count + n) (by omega) rfl ?_
      by_cases hz : x.count + n = 0
      · have : 0 < x.count := by omega
        simp [hz, this]
      · have h3 : 0 < x.count := by omega
        have h4 : 0 < x.count + n := by omega
        simp [hz, h3, h4]

theorem Rel.freed {s : Sto} {m : RSto} (h : Rel s m) (hb : m.items.length ≤ 1000) (r : Ref) : (s.freed r).1 = (m.freed r).1 ∧ Rel (s.freed r).2 (m.freed r).2 ∧ (m.freed r).2.items.length = m.items.length := by
  cases ha : s.at r with
  | none => simp [Sto.freed, RSto.freed, ha, h.at_none ha, h]
  | some kx =>
    obtain ⟨k, x⟩ := kx
    obtain ⟨hi, h2⟩ := h.at_some ha
    obtain ⟨_, hx, p3, hu, p5⟩ := Sto.at_some ha
    simp only [Sto.freed, RSto.freed, ha, hi]
    have hc := h.cnt _ (List.mem_of_getElem? hi)
    simp only at hc
    by_cases h0 : 0 < x.count
    · simp only [h0, if_true]
      exact ⟨trivial, h, trivial⟩
    · simp only [h0, if_false]
      refine ⟨trivial, ?_, by simp⟩
      have hb2 : m.used false ≤ 1000 := Nat.le_trans List.countP_le_length hb
      obtain ⟨g1, g2⟩ := h.gen k x hx
      have hg0 : genOf k m.items ≤ 1000 := Nat.le_trans List.countP_le_length hb
      rw [hu, if_pos rfl] at g1
      have e4 : w64 (s.used - 1) = s.used - 1 := by rw [h.used]; exact w64_eq (by omega) (by omega)
      have e5 : w64 (x.gen + 1) = x.gen + 1 := w64_eq (by omega) (by omega)
      rw [e4, e5]
      generalize m.find r = i at *
      have hkl := (List.getElem?_eq_some_iff.1 hx).1
      have hil := (List.getElem?_eq_some_iff.1 hi).1
      refine ⟨by simpa using h.n, fun k' y hy => ?_, fun k' y hy hyu => ?_, fun j it hj hg => ?_, fun it hit => ?_, ?_, ?_⟩
      · have hg1 := gen_set (k := k') (y := ⟨⟨k, x.gen⟩, x.ev, x.count, true⟩) hi rfl
        simp only [hg1]
        by_cases e : k = k'
        · subst e
          rw [List.getElem?_set_self hkl] at hy
          cases hy
          refine ⟨by simpa using g1, ?_⟩
          refine gone_all rfl fun y hy hs => ?_
          obtain ⟨j, hj⟩ := List.mem_iff_getElem?.1 hy
          by_cases ej : i = j
          · subst ej
            rw [List.getElem?_set_self hil] at hj
            cases hj; rfl
          · rw [List.getElem?_set_ne ej] at hj
            cases hyg : y.gone with
            | true => rfl
            | false =>
              obtain ⟨k', z, q1, q2, q3, q4⟩ := h.uniq j y hj hyg
              have : k' = k := by rw [q1] at hs; simp at hs; omega
              subst this
              rw [hx] at q2; cases q2
              exact absurd (q4 i _ hi rfl q1.symm).symm ej
        · rw [List.getElem?_set_ne e] at hy
          obtain ⟨q1, q2⟩ := h.gen k' y hy
          have hg2 : lastGone k' (m.items.set i ⟨⟨k, x.gen⟩, x.ev, x.count, true⟩) = lastGone k' m.items := gone_set_other (y := ⟨⟨k, x.gen⟩, x.ev, x.count, true⟩) hi rfl (by simp; omega) true
          rw [hg2]
          exact ⟨q1, q2⟩
      · by_cases e : k = k'
        · subst e
          rw [List.getElem?_set_self hkl] at hy
          cases hy
          cases hyu
        · rw [List.getElem?_set_ne e] at hy
          obtain ⟨j, hj⟩ := h.live k' y hy hyu
          have : i ≠ j := fun q => by subst q; rw [hi] at hj; simp at hj; omega
          exact ⟨j, by rw [List.getElem?_set_ne this]; exact hj⟩
      · by_cases ej : i = j
        · subst ej
          rw [List.getElem?_set_self hil] at hj
          cases hj
          cases hg
        · rw [List.getElem?_set_ne ej] at hj
          obtain ⟨k', y, q1, q2, q3, q4⟩ := h.uniq j it hj hg
          have e : k ≠ k' := fun e => by
            subst e
            rw [hx] at q2; cases q2
            exact absurd (q4 i _ hi rfl q1.symm).symm ej
          refine ⟨k', y, q1, by rw [List.getElem?_set_ne e]; exact q2, q3, fun j' it' hj' hg' hr' => ?_⟩
          by_cases ej' : i = j'
          · subst ej'
            rw [List.getElem?_set_self hil] at hj'
            cases hj'
            cases hg'
          · rw [List.getElem?_set_ne ej'] at hj'
            exact q4 j' it' hj' hg' hr'
      · rcases List.mem_or_eq_of_mem_set hit with hit | rfl
        · exact h.cnt it hit
        · exact hc
      · have := countP_set (usedP false) (y := ⟨⟨k, x.gen⟩, x.ev, x.count, true⟩) hi
        have h1 := h.used
        simp only [RSto.used] at *
        simp only [usedP] at this
        simp at this
        show s.used - 1 = _
        rw [h1]
        omega
      · have := countP_set (usedP true) (y := ⟨⟨k, x.gen⟩, x.ev, x.count, true⟩) hi
        have h1 := h.lives
        simp only [RSto.used] at *
        simp only [usedP] at this
        simp [h0] at this
        show s.live = _
        rw [h1, this]

theorem take_lens (s : Sto) (m : RSto) (e : Evt) : (s.take e).2.2.slots.length = s.slots.length ∧ (m.take e).2.2.items.length ≤ m.items.length + 1 := by
  constructor
  · unfold Sto.take; split <;> simp
  · unfold RSto.take; split <;> simp
theorem add_len (s : Sto) (r : Ref) (n : Int) : (s.add r n).2.2.slots.length = s.slots.length := by
  unfold Sto.add; split
  · rfl
  · split <;> simp
theorem freed_len (s : Sto) (r : Ref) : (s.freed r).2.slots.length = s.slots.length := by
  unfold Sto.freed; split
  · rfl
  · split <;> simp

theorem rel_new (n : Nat) : Rel (Sto.new n) ⟨n, []⟩ := by
  have hs : ∀ (k : Nat) (x : Slot), (Sto.new n).slots[k]? = some x → x = ⟨0, false, Evt.zero, 0⟩ := fun k x hx => by
    have := List.mem_of_getElem? hx
    simp only [Sto.new, List.mem_replicate] at this
    exact this.2
  refine ⟨by simp [Sto.new], fun k x hx => ?_, fun k x hx hu => ?_, fun i it hi => by simp at hi, fun it hit => by simp at hit, by simp [Sto.new, RSto.used], by simp [Sto.new, RSto.used]⟩
  · rw [hs k x hx]; simp [genOf, lastGone]
  · rw [hs k x hx] at hu; cases hu

end Dk.A
