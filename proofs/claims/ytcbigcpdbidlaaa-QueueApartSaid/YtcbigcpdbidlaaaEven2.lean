/- Of all outs, the even parts. -/
import Derived.Test.YtcbigcpdbidlaaaEven
set_option linter.unusedVariables false
set_option linter.unusedSimpArgs false
set_option linter.unusedSectionVars false
namespace Dk.Q
open Go Dk

theorem own_shows {P : Nat → Prop} {h : Hp} {n sz : Nat} {ag : Bool} {v : EV} {els : List (List EV)} {fp : List Nat} {ps : List PD} (O : Own h sz ag v els fp) (hP : ∀ y ∈ fp, P y) (hA : All2 (ElShows (Shows P h n) ag) els ps) : Shows P h (n + 1) v (.list ps) := by
  cases O with
  | nil => cases ps with
    | nil => exact .full (n + 1)
    | cons _ _ => exact hA.elim
  | arr h1 h2 h3 h4 => exact .inr ⟨_, _, _, _, _, _, ps, rfl, h1, h2, h4, hP _ (by simp), rfl, hA⟩
theorem hits_all2 {P : Nat → Prop} {h : Hp} {n : Nat} : ∀ l : List Hit, All2 (ElShows (Shows P h n) true) (l.map Hit.cells) (l.map Hit.pd)
  | [] => trivial
  | x :: l => ⟨⟨_, rfl, .plain n, .plain n, .plain n, trivial⟩, hits_all2 l⟩
theorem ints_all2 {P : Nat → Prop} {h : Hp} {n : Nat} : ∀ l : List Int, All2 (ElShows (Shows P h n) false) (ints l) (l.map iN)
  | [] => trivial
  | x :: l => ⟨⟨_, rfl, .plain n⟩, ints_all2 l⟩

def EvRow (P : Nat → Prop) (h : Hp) (row : List EV) (o : OutV) : Prop := ∃ hv lv, row = [hv, lv, .full [], .full []] ∧ Shows P h 7 hv (rowPD o.hits) ∧ Shows P h 7 lv (.list (o.lost.map iN)) ∧ o.u = [] ∧ o.d = []
theorem EvRow.fwd {P : Nat → Prop} {h h' : Hp} {ids : List Nat} (f : Fwd ids h h') (hi : ∀ y ∈ ids, ¬ P y) {el : List EV} {x : OutV} : EvRow P h el x → EvRow P h' el x
  | ⟨hv, lv, e, q, r, u⟩ => ⟨hv, lv, e, q.fwd f hi, r.fwd f hi, u⟩
theorem EvRow.mono {P Q : Nat → Prop} {h : Hp} (hp : ∀ y, P y → Q y) {el : List EV} {x : OutV} : EvRow P h el x → EvRow Q h el x
  | ⟨hv, lv, e, q, r, u⟩ => ⟨hv, lv, e, q.mono hp, r.mono hp, u⟩
theorem ev_show {P Q : Nat → Prop} {h : Hp} (hp : ∀ y, P y → Q y) : ∀ {rows : List (List EV)} {O : List OutV}, All2 (EvRow P h) rows O → All2 (ElShows (Shows Q h 7) true) rows (O.map OutV.pd)
  | [], [], _ => trivial
  | row :: rows, o :: O, ⟨⟨hv, lv, e, a, b, u, d⟩, r⟩ => by
    subst e
    refine ⟨⟨_, rfl, a.mono hp, b.mono hp, ?_, ?_, trivial⟩, ev_show hp r⟩
    · rw [u]; exact .full 7
    · rw [d]; exact .full 7
  | [], _ :: _, q => q.elim
  | _ :: _, [], q => q.elim

structure EvAt (outs : List OutV) (r : Nat) (f0 : Fr) (h0 : Hp) (q : Nat) (f : Fr) (h : Hp) (k : Nat) (rows : List (List EV)) : Prop where
  e : ∀ t ∈ [1, 5, 6, 7, 8, 9, 10, 11], f.get t = f0.get t
  g12 : f.get 12 = eI k
  le : k ≤ outs.length
  q : q = outs.length - k
  ar : h.arr r 0 = some ⟨0, 4, true, 0, rows⟩
  len : rows.length = outs.length
  done : All2 (EvRow (fun y => r < y) h) (rows.take k) ((outs.map evenO).take k)
  todo : ∀ j, k ≤ j → j < outs.length → rows[j]? = some fullRow
  fw : Fwd [r] h0 h

theorem outs_even {outs : List OutV} {r : Nat} {f : Fr} {h : Hp} {Q : Ex → Fr → Hp → Prop} {ks : List Ct} (hok : ∀ o ∈ outs, OutOK o) (g10 : f.get 10 = .p (.list (outs.map OutV.pd))) (g11 : f.get 11 = .arr r 0 4 0 outs.length false) (g12 : f.get 12 = eI 0)
    (ar : h.arr r 0 = some ⟨0, 4, true, 0, List.replicate outs.length fullRow⟩) (hlr : h.lim ≤ r) (hl : h.lim ≤ h.objs.length) (hbig : outs.length < 1000)
    (hQ : ∀ f' h', (∀ t ∈ [1, 5, 6, 7, 8, 9, 10, 11], f'.get t = f.get t) → Shows (fun y => r ≤ y) h' 8 (.arr r 0 4 0 outs.length false) (.list ((outs.map evenO).map OutV.pd)) → Fwd [r] h h' → Run C0 ks .normal f' h' Q) :
    Run C0 (.code (.loop [1, 5, 6, 7, 8, 9, 10, 11, 12] eOut) :: .block 2 :: ks) .normal f h Q := by
  have lr := arr_lt ar
  refine Run_loop (fun q f' h' => ∃ k rows, EvAt outs r f h q f' h' k rows) (n := outs.length) ⟨0, _, fun t _ => rfl, g12, by omega, rfl, ar, by simp, by simp [All2], fun j _ hj => by rw [List.getElem?_replicate, if_pos hj], Fwd.refl _ _⟩ ?_
  rintro q f2 h2 ⟨k, rows, I⟩
  obtain ⟨Ie, I12, Ile, Iq, Iar, Ilen, Idone, Itodo, If⟩ := I
  have e1 := Ie 1 (by simp)
  have e5 := Ie 5 (by simp)
  have e6 := Ie 6 (by simp)
  have e7 := Ie 7 (by simp)
  have e8 := Ie 8 (by simp)
  have e9 := Ie 9 (by simp)
  have e10 := (Ie 10 (by simp)).trans g10
  have e11 := (Ie 11 (by simp)).trans g11
  have lr2 := arr_lt Iar
  have l2 : h2.lim ≤ h2.objs.length := If.limlen hl
  have llr2 : h2.lim ≤ r := by rw [If.lim]; exact hlr
  simp only [eOut]
  by_cases hk : k < outs.length
  · obtain ⟨o, ho⟩ : ∃ o, outs[k]? = some o := ⟨_, List.getElem?_eq_getElem hk⟩
    have w1 : IntKind.i64.wrap ((k : Int) + 1) = (k : Int) + 1 := wrap64 (by omega) (by omega)
    have oo := hok o (List.mem_of_getElem? ho)
    have hrk := Itodo k (Nat.le_refl _) hk
    have few := oo.few
    have lost := oo.lost
    simp [I12, e10, hk]
    refine hits_even (o := o) (outs := outs) (rows := rows) (r := r) (k := k) ho (by omega) (by simp [e10]) (by simp [e11, Ilen]) (by simp) (by simp) Iar hrk llr2 l2 ?_
    intro f3 h3 hv fp e3 ar3 O3 n3 F3
    simp
    have m3 : ∀ t ∈ [1, 5, 6, 7, 8, 9, 10, 11, 12], f3.get t = f2.get t := fun t ht => by
      rw [e3 t ht]
      simp at ht
      rcases ht with rfl | rfl | rfl | rfl | rfl | rfl | rfl | rfl | rfl <;> simp [I12, e10]
    have hkl : k < rows.length := by omega
    refine lost_even (o := o) (outs := outs) (rows := rows.set k [hv, .full [], .full [], .full []]) (hv := hv) (r := r) (k := k) ho (by omega) (by simpa using (m3 10 (by simp)).trans e10) (by simpa [Ilen] using (m3 11 (by simp)).trans e11) (by simpa using (m3 12 (by simp)).trans I12) (by simp) ar3 (by rw [List.getElem?_set_self hkl]) (by rw [F3.lim]; exact llr2) (F3.limlen l2) ?_
    intro f4 h4 lv fp4 e4 ar4 O4 n4 F4
    have m4 : ∀ t ∈ [1, 5, 6, 7, 8, 9, 10, 11, 12], f4.get t = f2.get t := fun t ht => by
      rw [e4 t ht, ← m3 t ht]
      simp at ht
      rcases ht with rfl | rfl | rfl | rfl | rfl | rfl | rfl | rfl | rfl <;> simp
    rw [List.set_set] at ar4
    have s12 := (m4 12 (by simp)).trans I12
    simp [s12, w1]
    have nr : ∀ y ∈ [r], ¬ (r < y) := by simp
    have F34 := F3.trans F4
    have hl3 := F3.len
    refine ⟨outs.length - (k + 1), by omega, k + 1, rows.set k [hv, lv, .full [], .full []], ?_, by simp, by omega, rfl, ar4, by simp [Ilen], ?_, fun j hj hj2 => ?_, If.trans F34⟩
    · simp [m4, e1, e5, e6, e7, e8, e9, e10, e11, g10, g11]
    · have hm : (outs.map evenO)[k]? = some (evenO o) := by rw [List.getElem?_map, ho]; rfl
      rw [List.take_add_one, List.take_add_one, hm, List.getElem?_set_self hkl, List.take_set_of_le (Nat.le_refl _)]
      refine (Idone.imp fun _ _ => EvRow.fwd F34 nr).append ⟨⟨hv, lv, rfl, ?_, ?_, rfl, rfl⟩, trivial⟩
      · exact own_shows (O3.fwd F4 fun y hy q => by simp at q; subst q; have := n3 _ hy; omega) (fun y hy => by have := n3 y hy; omega) (hits_all2 _)
      · exact own_shows O4 (fun y hy => by have := n4 y hy; omega) (ints_all2 _)
    · rw [List.getElem?_set_ne (by omega)]
      exact Itodo j (by omega) hj2
  · obtain rfl : k = outs.length := by omega
    simp [I12, e10]
    refine hQ _ h2 ?_ ?_ If
    · simp [e1, e5, e6, e7, e8, e9, e10, e11, g10, g11]
    · refine .inr ⟨r, 0, 0, outs.length, false, _, (outs.map evenO).map OutV.pd, rfl, Iar, by simp [Ilen], llr2, Nat.le_refl _, rfl, ?_⟩
      have t1 : rows.take outs.length = rows := List.take_of_length_le (by omega)
      have t2 : (outs.map evenO).take outs.length = outs.map evenO := List.take_of_length_le (by simp)
      rw [t1, t2] at Idone
      rw [List.drop_zero, t1]
      exact ev_show (fun y hy => Nat.le_of_lt hy) Idone
end Dk.Q
