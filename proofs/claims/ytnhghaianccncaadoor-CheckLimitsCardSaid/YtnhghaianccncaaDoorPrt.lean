/- query.printable. -/
import Derived.Test.YtnhghaianccncaaDoorTakes
set_option linter.unusedVariables false
set_option linter.unusedSimpArgs false
set_option linter.unusedSectionVars false
namespace Dk.L
open Go Dk
variable [Mx]
theorem all_take {α : Type} {p : α → Bool} {l : List α} {i : Nat} {x : α} (h : l[i]? = some x) : (l.take (i + 1)).all p = ((l.take i).all p && p x) := by
 rw [List.take_add_one, h]
 simp
theorem all_take_of {α : Type} {p : α → Bool} {l : List α} {i : Nat} (h : (l.take i).all p = false) : l.all p = false := by
 rw [← List.take_append_drop i l, List.all_append, h]
 rfl
structure PrI (nm : ByteArray → Bool) (q : Qry) (X : Hp) (B : Nat) (ev : EV) (z : Nat) (f : Fr) (h' : Hp) : Prop where
 ex : ∃ i : Nat, i ≤ q.es.length ∧ z = q.es.length - i ∧ Fwd [] X h' ∧ f.get 1 = .ptr B 0 0 0 ∧ f.get 3 = eB (decide (0 < q.es.length) && decide (0 ≤ q.w) && (q.es.take i).all (elemB nm)) ∧ f.get 18 = ev ∧ f.get 19 = eI q.es.length ∧ f.get 20 = eI i
structure PrJ (nm : ByteArray → Bool) (q : Qry) (X : Hp) (B : Nat) (cv : EV) (z : Nat) (f : Fr) (h' : Hp) : Prop where
 ex : ∃ i : Nat, i ≤ q.cs.length ∧ z = q.cs.length - i ∧ Fwd [] X h' ∧ f.get 3 = eB (decide (0 < q.es.length) && decide (0 ≤ q.w) && q.es.all (elemB nm) && (q.cs.take i).all (condB nm)) ∧ f.get 44 = cv ∧ f.get 45 = eI q.cs.length ∧ f.get 46 = eI i
theorem printable_ok {nm : ByteArray → Bool} {h : Hp} {q : Qry} {l : List EV} (V : QryV h q l) (he : q.es.length < 1000000) (hcl : q.cs.length < 1000000) (hcs : ∀ c ∈ q.cs, c.l.length < 1000000 ∧ c.r.length < 1000000)
 (hn : ∀ e ∈ q.es, NameIs e.v (nm e.v)) (hn2 : ∀ c ∈ q.cs, (∀ x ∈ c.l, NameIs x.v (nm x.v)) ∧ ∀ x ∈ c.r, NameIs x.v (nm x.v)) :
 C0 n_query_printable [.agg l] h = some (eB (printB nm q), h) := by
 obtain ⟨ev, cv, rfl, E, Cv, CV⟩ := V
 refine call_loc noExt_mono (f := n_query_printable) rfl rfl rfl fun h1 e1 el => ?_
 have P1 : Pfx h h1 := .of e1
 have hl : h1.lim ≤ h1.objs.length := by omega
 simp [ones, E.one, Cv.one]
 obtain ⟨X, eX⟩ : ∃ X, X = h1.new (.cells ⟨0, 4, true, 0, [[ev, cv, eI q.w, eB q.k]]⟩) := ⟨_, rfl⟩
 have FX : Fwd [] h1 X := by rw [eX]; exact (Fwd.refl _ _).new _
 have nX : X.objs.length = h1.objs.length + 1 := by rw [eX]; simp
 have x0 : X.arr h1.objs.length 0 = some ⟨0, 4, true, 0, [[ev, cv, eI q.w, eB q.k]]⟩ := by rw [eX]; simp
 have PX := P1.trans (pfx FX)
 rw [← eX]
 clear eX
 have hlX : X.lim ≤ X.objs.length := by have := FX.lim; omega
 simp [E.len, E.cells, Cv.cells, x0, nl (arr_lt x0)]
 refine Gd_join1 (fun f h2 => h2 = X ∧ f.get 1 = .ptr h1.objs.length 0 0 0 ∧ f.get 3 = eB (decide (0 < q.es.length) && decide (0 ≤ q.w))) ?_ ?_
 · by_cases hp : 0 < q.es.length
   · simp [hp, x0, nl (arr_lt x0), JoinQ_normal]
   · simp [hp, JoinQ_normal]
 rintro f2 h2 ⟨rfl, g1, g3⟩
 simp [g1, x0, nl (arr_lt x0), E.cells, E.len]
 refine Run_meet (k1 := [_, _]) (fun f h3 => Fwd [] h2 h3 ∧ f.get 1 = .ptr h1.objs.length 0 0 0 ∧ f.get 3 = eB (decide (0 < q.es.length) && decide (0 ≤ q.w) && q.es.all (elemB nm))) ?_ ?_
 · refine Run_loop (PrI nm q h2 h1.objs.length ev) (n := q.es.length) ⟨0, by omega, rfl, Fwd.refl _ _, by simp [g1], by simp [g3], by simp, by simp, by simp⟩ ?_
   rintro z f3 h3 ⟨i, hi, hz, F3, k1, k3, k18, k19, k20⟩
   have lm3 : h3.lim ≤ h3.objs.length := by have := F3.lim; have := F3.len; omega
   by_cases hin : i < q.es.length
   · obtain ⟨e, he⟩ : ∃ e, q.es[i]? = some e := ⟨_, List.getElem?_eq_getElem hin⟩
     obtain ⟨a, a1, a2⟩ := E.get (i := i) (el := e.cells) (by rw [List.getElem?_map, he]; rfl) rfl
     have a2 := a2 h3 (PX.trans (pfx F3))
     have hN := hn e (List.mem_of_getElem? he)
     have hta := all_take (p := elemB nm) he
     have hall := all_take_of (p := elemB nm) (l := q.es) (i := i + 1)
     simp [k1, k3, k18, k19, k20, hin, a1, a2, Elem.cells, ones, lm3]
     have FY : Fwd [] h2 ((h3.new (.cells ⟨0, 4, true, 0, [[eI 0, .p (.str (bs [])), eB false, eB false]]⟩)).setArr h3.objs.length ⟨0, 4, true, 0, [[eI e.ty, .p (.str e.v), eB e.plus, eB e.not]]⟩) := (F3.new _).set _ (.inr (by have := F3.len; omega))
     have nY : ((h3.new (.cells ⟨0, 4, true, 0, [[eI 0, .p (.str (bs [])), eB false, eB false]]⟩)).setArr h3.objs.length ⟨0, 4, true, 0, [[eI e.ty, .p (.str e.v), eB e.plus, eB e.not]]⟩).objs.length = h3.objs.length + 1 := by simp
     have lY : ((h3.new (.cells ⟨0, 4, true, 0, [[eI 0, .p (.str (bs [])), eB false, eB false]]⟩)).setArr h3.objs.length ⟨0, 4, true, 0, [[eI e.ty, .p (.str e.v), eB e.plus, eB e.not]]⟩).lim = h3.lim := rfl
     have xY : ((h3.new (.cells ⟨0, 4, true, 0, [[eI 0, .p (.str (bs [])), eB false, eB false]]⟩)).setArr h3.objs.length ⟨0, 4, true, 0, [[eI e.ty, .p (.str e.v), eB e.plus, eB e.not]]⟩).arr h3.objs.length 0 = some ⟨0, 4, true, 0, [[eI e.ty, .p (.str e.v), eB e.plus, eB e.not]]⟩ := by simp [Hp.arr_set]
     generalize (h3.new (.cells ⟨0, 4, true, 0, [[eI 0, .p (.str (bs [])), eB false, eB false]]⟩)).setArr h3.objs.length ⟨0, 4, true, 0, [[eI e.ty, .p (.str e.v), eB e.plus, eB e.not]]⟩ = Y at *
     have hN := hN Y (by omega)
     generalize hb : (decide (0 < q.es.length) && decide (0 ≤ q.w) && (q.es.take i).all (elemB nm)) = b at *
     have hall0 : b = false → (decide (0 < q.es.length) && decide (0 ≤ q.w) && q.es.all (elemB nm)) = false := by
      intro hf
      rw [hf] at hb
      cases h5 : (decide (0 < q.es.length) && decide (0 ≤ q.w)) with
      | false => rfl
      | true => rw [h5] at hb; rw [all_take_of (by simpa using hb)]; rfl
     have hall1 : elemB nm e = false → (decide (0 < q.es.length) && decide (0 ≤ q.w) && q.es.all (elemB nm)) = false := by
      intro hf
      rw [hall (by rw [hta, hf]; simp)]
      simp
     have hnx : elemB nm e = true → b = (decide (0 < q.es.length) && decide (0 ≤ q.w) && (q.es.take (i + 1)).all (elemB nm)) := by
      intro hf
      rw [hta, hf, Bool.and_true, hb]
     have w3 : IntKind.i64.wrap ((i : Int) + 1) = (i : Int) + 1 := wrap64 (by omega) (by omega)
     cases b with
     | false => simp [JoinQ_normal, FY, hall0]
     | true =>
      simp [xY, nl (arr_lt xY)]
      refine PutA_eq hN ?_
      rw [show elemB nm e = (nm e.v && decide (0 ≤ e.ty) && decide (e.ty < 8)) from rfl] at hall1 hnx
      cases hq : nm e.v with
      | false => simp [hq] at hall1; simp [JoinQ_normal, FY]; simpa using hall1
      | true =>
       by_cases h6 : 0 ≤ e.ty
       · by_cases h7 : e.ty < 8
         · simp [xY, nl (arr_lt xY), h6, h7, k20, w3]
           have hnx := hnx (by simp [hq, h6, h7])
           exact ⟨q.es.length - (i + 1), by omega, i + 1, by omega, rfl, FY, by simp [k1], by simpa using hnx, by simp [k18], by simp [k19], by simp⟩
         · simp [hq, h6, h7] at hall1
           simp [xY, nl (arr_lt xY), h6, h7, JoinQ_normal, FY]
           simpa using hall1
       · simp [hq, h6] at hall1
         simp [xY, nl (arr_lt xY), h6, JoinQ_normal, FY]
         simpa using hall1
   · have : q.es.take i = q.es := List.take_of_length_le (by omega)
     rw [this] at k3
     simp [k1, k3, k18, k19, k20, hin, JoinQ_normal, F3]
 rintro f3 h3 ⟨F3, k1, k3⟩
 have x3 := F3.arr x0 (by simp)
 simp [k1, k3, x3, nl (arr_lt x3), Cv.cells, Cv.len]
 refine Run_loop (PrJ nm q h2 h1.objs.length cv) (n := q.cs.length) ⟨0, by omega, rfl, F3, by simp [k3], by simp, by simp, by simp⟩ ?_
 rintro z f4 h4 ⟨i, hi, hz, F4, k3, k44, k45, k46⟩
 have lm4 : h4.lim ≤ h4.objs.length := by have := F4.lim; have := F4.len; omega
 by_cases hin : i < q.cs.length
 · obtain ⟨c, hc⟩ : ∃ c, q.cs[i]? = some c := ⟨_, List.getElem?_eq_getElem hin⟩
   have hm := List.mem_of_getElem? hc
   obtain ⟨a, a1, a2⟩ := Cv.get (i := i) (el := c.cells) (by rw [List.getElem?_map, hc]; rfl) rfl
   have P4 := PX.trans (pfx F4)
   have a2 := a2 h4 P4
   have V4 := (CV c hm).pfx P4
   have hta := all_take (p := condB nm) hc
   simp [k3, k44, k45, k46, hin, a1, a2, Cond.cells, ones, lm4, V4.l.one, V4.r.one, V4.l.cells, V4.r.cells]
   have FY : Fwd [] h2 ((h4.new (.cells ⟨0, 3, true, 0, [[eI 0, .full [], .full []]]⟩)).setArr h4.objs.length ⟨0, 3, true, 0, [[eI c.op, c.lv, c.rv]]⟩) := (F4.new _).set _ (.inr (by have := F4.len; omega))
   have nY : ((h4.new (.cells ⟨0, 3, true, 0, [[eI 0, .full [], .full []]]⟩)).setArr h4.objs.length ⟨0, 3, true, 0, [[eI c.op, c.lv, c.rv]]⟩).objs.length = h4.objs.length + 1 := by simp
   have lY : ((h4.new (.cells ⟨0, 3, true, 0, [[eI 0, .full [], .full []]]⟩)).setArr h4.objs.length ⟨0, 3, true, 0, [[eI c.op, c.lv, c.rv]]⟩).lim = h4.lim := rfl
   have xY : ((h4.new (.cells ⟨0, 3, true, 0, [[eI 0, .full [], .full []]]⟩)).setArr h4.objs.length ⟨0, 3, true, 0, [[eI c.op, c.lv, c.rv]]⟩).arr h4.objs.length 0 = some ⟨0, 3, true, 0, [[eI c.op, c.lv, c.rv]]⟩ := by simp [Hp.arr_set]
   generalize (h4.new (.cells ⟨0, 3, true, 0, [[eI 0, .full [], .full []]]⟩)).setArr h4.objs.length ⟨0, 3, true, 0, [[eI c.op, c.lv, c.rv]]⟩ = Y at *
   have PY := PX.trans (pfx FY)
   have hS1 := sound_ok ((CV c hm).pfx PY).l (hcs c hm).1 (by omega) (hn2 c hm).1
   have hS2 := sound_ok ((CV c hm).pfx PY).r (hcs c hm).2 (by omega) (hn2 c hm).2
   have w3 : IntKind.i64.wrap ((i : Int) + 1) = (i : Int) + 1 := wrap64 (by omega) (by omega)
   generalize hb : (decide (0 < q.es.length) && decide (0 ≤ q.w) && q.es.all (elemB nm) && (q.cs.take i).all (condB nm)) = b at *
   have hnx : (decide (0 < q.es.length) && decide (0 ≤ q.w) && q.es.all (elemB nm) && (q.cs.take (i + 1)).all (condB nm)) = (b && condB nm c) := by rw [hta, ← Bool.and_assoc, hb]
   rw [show condB nm c = (decide (1 ≤ c.op) && decide (c.op ≤ 6) && soundB nm 0 c.l && soundB nm 0 c.r) from rfl] at hnx
   have fin : ∀ f : Fr, f.get 3 = eB (b && (decide (1 ≤ c.op) && decide (c.op ≤ 6) && soundB nm 0 c.l && soundB nm 0 c.r)) → f.get 44 = cv → f.get 45 = eI q.cs.length → f.get 46 = eI ((i : Int) + 1) → ∃ m, m < z ∧ PrJ nm q h2 h1.objs.length cv m f Y :=
    fun f e1 e2 e3 e4 => ⟨q.cs.length - (i + 1), by omega, i + 1, by omega, rfl, FY, by rw [hnx]; exact e1, e2, e3, by rw [e4]; rfl⟩
   cases b with
   | false =>
    simp [k46, w3]
    exact fin _ (by simp [k3]) (by simp [k44]) (by simp [k45]) (by simp)
   | true =>
    by_cases h6 : 1 ≤ c.op
    · by_cases h7 : c.op ≤ 6
      · simp [xY, nl (arr_lt xY), h6, h7]
        refine PutA_eq hS1 ?_
        cases hs1 : soundB nm 0 c.l with
        | false =>
         simp [k46, w3]
         exact fin _ (by simp [hs1]) (by simp [k44]) (by simp [k45]) (by simp)
        | true =>
         simp [xY, nl (arr_lt xY)]
         refine PutA_eq hS2 ?_
         simp [k46, w3]
         exact fin _ (by simp [h6, h7, hs1]) (by simp [k44]) (by simp [k45]) (by simp)
      · simp [xY, nl (arr_lt xY), h6, h7, k46, w3]
        exact fin _ (by simp [h7]) (by simp [k44]) (by simp [k45]) (by simp)
    · simp [xY, nl (arr_lt xY), h6, k46, w3]
      exact fin _ (by simp [h6]) (by simp [k44]) (by simp [k45]) (by simp)
 · have : q.cs.take i = q.cs := List.take_of_length_le (by omega)
   rw [this] at k3
   simp [k3, k44, k45, k46, hin, Ends]
   rfl
end Dk.L
