/- slices.ContainsFunc, check.limits. -/
import Derived.Test.YtnhghaianccncaaDoorPrt
set_option linter.unusedVariables false
set_option linter.unusedSimpArgs false
set_option linter.unusedSectionVars false
namespace Dk.L
open Go Dk
variable [Mx]
theorem any_take {α : Type} {p : α → Bool} {l : List α} {i : Nat} {x : α} (h : l[i]? = some x) : (l.take (i + 1)).any p = ((l.take i).any p || p x) := by
 rw [List.take_add_one, h]
 simp
structure FiE (h0 X : Hp) (v fv : EV) (E : List (List EV)) (p : List EV → Bool) (z : Nat) (f : Fr) (h' : Hp) : Prop where
 ex : ∃ i : Nat, i ≤ E.length ∧ z = E.length - i ∧ Fwd [] X h' ∧ f.get 0 = v ∧ f.get 1 = fv ∧ f.get 7 = eI E.length ∧ f.get 8 = eI i ∧ (E.take i).any p = false
theorem index_E {h : Hp} {v fv : EV} {fn : Nat} {us cs : List EV} {E : List (List EV)} {p : List EV → Bool} (hf : fv = .fn (.func fn) us cs) (V : View h 4 v E) (hlen : E.length < 3000000) (hs : ∀ x ∈ E, x.length = 4) (hl : h.lim ≤ h.objs.length)
 (hc : ∀ x ∈ E, ∀ h', Pfx h h' → h'.lim ≤ h'.objs.length → C0 fn (us ++ [.agg x] ++ cs) h' = some (eB (p x), h')) :
 ∃ u, (∃ k : Int, u = eI k ∧ decide (0 ≤ k) = E.any p) ∧ C0 n_slices_IndexFunc [v, fv] h = some (u, h) := by
 refine call_locX noExt_mono (f := n_slices_IndexFunc) rfl rfl (fun v ⟨k, e, _⟩ => by subst e; rfl) fun h0 e0 el => ?_
 have hl : h0.lim ≤ h0.objs.length := by omega
 have P0 : Pfx h h0 := .of e0
 simp [V.len]
 refine Run_loop (FiE h h0 v fv E p) (n := E.length) ⟨0, by omega, rfl, Fwd.refl _ _, by simp, by simp, by simp, by simp, by simp⟩ ?_
 rintro z f1 h1 ⟨i, hi, hz, F1, g0, g1, g7, g8, hn⟩
 have lm : h1.lim ≤ h1.objs.length := by have := F1.lim; have := F1.len; omega
 by_cases hin : i < E.length
 · obtain ⟨x, hx⟩ : ∃ x, E[i]? = some x := ⟨_, List.getElem?_eq_getElem hin⟩
   have hm := List.mem_of_getElem? hx
   obtain ⟨a, a1, a2⟩ := V.get (i := i) hx (hs x hm)
   have P1 := P0.trans (pfx F1)
   have a2 := a2 h1 P1
   have ha := any_take (p := p) hx
   rw [hn] at ha
   simp [g0, g1, g7, g8, hin, a1, a2, hf]
   refine PutA_eq (by simpa [C0] using hc x hm h1 P1 lm) ?_
   cases hp : p x with
   | true =>
    simp [Ends]
    exact ⟨x, hm, hp⟩
   | false =>
    have w3 : IntKind.i64.wrap ((i : Int) + 1) = (i : Int) + 1 := wrap64 (by omega) (by omega)
    simp [g8, w3]
    exact ⟨E.length - (i + 1), by omega, i + 1, by omega, rfl, F1, by simp [g0], by simp [g1, hf], by simp [g7], by simp, by rw [ha, hp]; rfl⟩
 · have : E.take i = E := List.take_of_length_le (by omega)
   rw [this] at hn
   simp [g0, g7, g8, hin, Ends]
   simpa using hn
theorem contains_E {h : Hp} {v fv : EV} {fn : Nat} {us cs : List EV} {E : List (List EV)} {p : List EV → Bool} (hf : fv = .fn (.func fn) us cs) (V : View h 4 v E) (hlen : E.length < 3000000) (hs : ∀ x ∈ E, x.length = 4) (hl : h.lim ≤ h.objs.length)
 (hc : ∀ x ∈ E, ∀ h', Pfx h h' → h'.lim ≤ h'.objs.length → C0 fn (us ++ [.agg x] ++ cs) h' = some (eB (p x), h')) :
 C0 n_slices_ContainsFunc [v, fv] h = some (eB (E.any p), h) := by
 refine call_loc noExt_mono (f := n_slices_ContainsFunc) rfl rfl rfl fun h0 e0 el => ?_
 have hl : h0.lim ≤ h0.objs.length := by omega
 have P0 : Pfx h h0 := .of e0
 obtain ⟨u, ⟨k, rfl, hk⟩, e⟩ := index_E hf (V.pfx P0) hlen hs hl fun x hx h' p' l' => hc x hx h' (P0.trans p') l'
 simp
 refine PutA_eq e ?_
 simp [Ends, hk]
structure FiC (h0 X : Hp) (v fv : EV) (E : List (List EV)) (p : List EV → Bool) (z : Nat) (f : Fr) (h' : Hp) : Prop where
 ex : ∃ i : Nat, i ≤ E.length ∧ z = E.length - i ∧ Fwd [] X h' ∧ f.get 0 = v ∧ f.get 1 = fv ∧ f.get 7 = eI E.length ∧ f.get 8 = eI i ∧ (E.take i).any p = false
theorem index_C {h : Hp} {v fv : EV} {fn : Nat} {us cs : List EV} {E : List (List EV)} {p : List EV → Bool} (hf : fv = .fn (.func fn) us cs) (V : View h 3 v E) (hlen : E.length < 3000000) (hs : ∀ x ∈ E, x.length = 3) (hl : h.lim ≤ h.objs.length)
 (hc : ∀ x ∈ E, ∀ h', Pfx h h' → h'.lim ≤ h'.objs.length → C0 fn (us ++ [.agg x] ++ cs) h' = some (eB (p x), h')) :
 ∃ u, (∃ k : Int, u = eI k ∧ decide (0 ≤ k) = E.any p) ∧ C0 n_slices_IndexFunc_50 [v, fv] h = some (u, h) := by
 refine call_locX noExt_mono (f := n_slices_IndexFunc_50) rfl rfl (fun v ⟨k, e, _⟩ => by subst e; rfl) fun h0 e0 el => ?_
 have hl : h0.lim ≤ h0.objs.length := by omega
 have P0 : Pfx h h0 := .of e0
 simp [V.len]
 refine Run_loop (FiC h h0 v fv E p) (n := E.length) ⟨0, by omega, rfl, Fwd.refl _ _, by simp, by simp, by simp, by simp, by simp⟩ ?_
 rintro z f1 h1 ⟨i, hi, hz, F1, g0, g1, g7, g8, hn⟩
 have lm : h1.lim ≤ h1.objs.length := by have := F1.lim; have := F1.len; omega
 by_cases hin : i < E.length
 · obtain ⟨x, hx⟩ : ∃ x, E[i]? = some x := ⟨_, List.getElem?_eq_getElem hin⟩
   have hm := List.mem_of_getElem? hx
   obtain ⟨a, a1, a2⟩ := V.get (i := i) hx (hs x hm)
   have P1 := P0.trans (pfx F1)
   have a2 := a2 h1 P1
   have ha := any_take (p := p) hx
   rw [hn] at ha
   simp [g0, g1, g7, g8, hin, a1, a2, hf]
   refine PutA_eq (by simpa [C0] using hc x hm h1 P1 lm) ?_
   cases hp : p x with
   | true =>
    simp [Ends]
    exact ⟨x, hm, hp⟩
   | false =>
    have w3 : IntKind.i64.wrap ((i : Int) + 1) = (i : Int) + 1 := wrap64 (by omega) (by omega)
    simp [g8, w3]
    exact ⟨E.length - (i + 1), by omega, i + 1, by omega, rfl, F1, by simp [g0], by simp [g1, hf], by simp [g7], by simp, by rw [ha, hp]; rfl⟩
 · have : E.take i = E := List.take_of_length_le (by omega)
   rw [this] at hn
   simp [g0, g7, g8, hin, Ends]
   simpa using hn
theorem contains_C {h : Hp} {v fv : EV} {fn : Nat} {us cs : List EV} {E : List (List EV)} {p : List EV → Bool} (hf : fv = .fn (.func fn) us cs) (V : View h 3 v E) (hlen : E.length < 3000000) (hs : ∀ x ∈ E, x.length = 3) (hl : h.lim ≤ h.objs.length)
 (hc : ∀ x ∈ E, ∀ h', Pfx h h' → h'.lim ≤ h'.objs.length → C0 fn (us ++ [.agg x] ++ cs) h' = some (eB (p x), h')) :
 C0 n_slices_ContainsFunc_29 [v, fv] h = some (eB (E.any p), h) := by
 refine call_loc noExt_mono (f := n_slices_ContainsFunc_29) rfl rfl rfl fun h0 e0 el => ?_
 have hl : h0.lim ≤ h0.objs.length := by omega
 have P0 : Pfx h h0 := .of e0
 obtain ⟨u, ⟨k, rfl, hk⟩, e⟩ := index_C hf (V.pfx P0) hlen hs hl fun x hx h' p' l' => hc x hx h' (P0.trans p') l'
 simp
 refine PutA_eq e ?_
 simp [Ends, hk]
structure FiD (h0 X : Hp) (v fv : EV) (E : List (List EV)) (p : List EV → Bool) (z : Nat) (f : Fr) (h' : Hp) : Prop where
 ex : ∃ i : Nat, i ≤ E.length ∧ z = E.length - i ∧ Fwd [] X h' ∧ f.get 0 = v ∧ f.get 1 = fv ∧ f.get 7 = eI E.length ∧ f.get 8 = eI i ∧ (E.take i).any p = false
theorem index_D {h : Hp} {v fv : EV} {fn : Nat} {us cs : List EV} {E : List (List EV)} {p : List EV → Bool} (hf : fv = .fn (.func fn) us cs) (V : View h 5 v E) (hlen : E.length < 3000000) (hs : ∀ x ∈ E, x.length = 5) (hl : h.lim ≤ h.objs.length)
 (hc : ∀ x ∈ E, ∀ h', Pfx h h' → h'.lim ≤ h'.objs.length → C0 fn (us ++ [.agg x] ++ cs) h' = some (eB (p x), h')) :
 ∃ u, (∃ k : Int, u = eI k ∧ decide (0 ≤ k) = E.any p) ∧ C0 n_slices_IndexFunc_52 [v, fv] h = some (u, h) := by
 refine call_locX noExt_mono (f := n_slices_IndexFunc_52) rfl rfl (fun v ⟨k, e, _⟩ => by subst e; rfl) fun h0 e0 el => ?_
 have hl : h0.lim ≤ h0.objs.length := by omega
 have P0 : Pfx h h0 := .of e0
 simp [V.len]
 refine Run_loop (FiD h h0 v fv E p) (n := E.length) ⟨0, by omega, rfl, Fwd.refl _ _, by simp, by simp, by simp, by simp, by simp⟩ ?_
 rintro z f1 h1 ⟨i, hi, hz, F1, g0, g1, g7, g8, hn⟩
 have lm : h1.lim ≤ h1.objs.length := by have := F1.lim; have := F1.len; omega
 by_cases hin : i < E.length
 · obtain ⟨x, hx⟩ : ∃ x, E[i]? = some x := ⟨_, List.getElem?_eq_getElem hin⟩
   have hm := List.mem_of_getElem? hx
   obtain ⟨a, a1, a2⟩ := V.get (i := i) hx (hs x hm)
   have P1 := P0.trans (pfx F1)
   have a2 := a2 h1 P1
   have ha := any_take (p := p) hx
   rw [hn] at ha
   simp [g0, g1, g7, g8, hin, a1, a2, hf]
   refine PutA_eq (by simpa [C0] using hc x hm h1 P1 lm) ?_
   cases hp : p x with
   | true =>
    simp [Ends]
    exact ⟨x, hm, hp⟩
   | false =>
    have w3 : IntKind.i64.wrap ((i : Int) + 1) = (i : Int) + 1 := wrap64 (by omega) (by omega)
    simp [g8, w3]
    exact ⟨E.length - (i + 1), by omega, i + 1, by omega, rfl, F1, by simp [g0], by simp [g1, hf], by simp [g7], by simp, by rw [ha, hp]; rfl⟩
 · have : E.take i = E := List.take_of_length_le (by omega)
   rw [this] at hn
   simp [g0, g7, g8, hin, Ends]
   simpa using hn
theorem contains_D {h : Hp} {v fv : EV} {fn : Nat} {us cs : List EV} {E : List (List EV)} {p : List EV → Bool} (hf : fv = .fn (.func fn) us cs) (V : View h 5 v E) (hlen : E.length < 3000000) (hs : ∀ x ∈ E, x.length = 5) (hl : h.lim ≤ h.objs.length)
 (hc : ∀ x ∈ E, ∀ h', Pfx h h' → h'.lim ≤ h'.objs.length → C0 fn (us ++ [.agg x] ++ cs) h' = some (eB (p x), h')) :
 C0 n_slices_ContainsFunc_31 [v, fv] h = some (eB (E.any p), h) := by
 refine call_loc noExt_mono (f := n_slices_ContainsFunc_31) rfl rfl rfl fun h0 e0 el => ?_
 have hl : h0.lim ≤ h0.objs.length := by omega
 have P0 : Pfx h h0 := .of e0
 obtain ⟨u, ⟨k, rfl, hk⟩, e⟩ := index_D hf (V.pfx P0) hlen hs hl fun x hx h' p' l' => hc x hx h' (P0.trans p') l'
 simp
 refine PutA_eq e ?_
 simp [Ends, hk]
omit [Mx] in
theorem any_same {α : Type} {f g : α → Bool} : ∀ {l : List α}, (∀ c ∈ l, f c = g c) → l.any f = l.any g
 | [], _ => rfl
 | x :: l, h => by simp only [List.any_cons, h x (by simp), any_same fun c hc => h c (List.mem_cons_of_mem _ hc)]
theorem long_elem (e : Elem) {h : Hp} : C0 n_check_limits_2 [.agg e.cells] h = some (eB (decide (8 < e.v.size)), h) := by
 refine call_loc noExt_mono (f := n_check_limits_2) rfl rfl rfl fun h0 e0 el => ?_
 simp [Elem.cells, ones, Ends]
 omega
theorem long_cond {c : Cond} {h : Hp} (V : CondV h c) : C0 n_check_limits_1 [.agg c.cells] h = some (eB (decide (32 < c.l.length) || decide (32 < c.r.length)), h) := by
 refine call_loc noExt_mono (f := n_check_limits_1) rfl rfl rfl fun h0 e0 el => ?_
 simp [Cond.cells, ones, V.l.one, V.r.one, V.l.len, V.r.len]
 have : decide ((32 : Int) < if c.l.length < c.r.length then (c.r.length : Int) else (c.l.length : Int)) = (decide (32 < c.l.length) || decide (32 < c.r.length)) := by
  rw [← Bool.decide_or]
  refine decide_eq_decide.2 ?_
  split <;> omega
 rw [this]
 simp [Ends]
def limB (q : Qry) : Bool := decide (q.es.length ≤ 6) && decide (q.cs.length ≤ 8) && decide (1 ≤ q.w) && decide (q.w ≤ 8) && !(q.es.any fun e => decide (8 < e.v.size)) && !(q.cs.any fun c => decide (32 < c.l.length) || decide (32 < c.r.length))
theorem limits_ok {h : Hp} {q : Qry} {l : List EV} (V : QryV h q l) (he : q.es.length < 1000000) (hcl : q.cs.length < 1000000) :
 C0 n_check_limits [.agg l] h = some (eB (limB q), h) := by
 obtain ⟨ev, cv, rfl, E, Cv, CV⟩ := V
 refine call_loc noExt_mono (f := n_check_limits) rfl rfl rfl fun h1 e1 el => ?_
 have P1 : Pfx h h1 := .of e1
 have hl : h1.lim ≤ h1.objs.length := by omega
 simp [ones, E.one, Cv.one]
 obtain ⟨X, eX⟩ : ∃ X, X = h1.new (.cells ⟨0, 4, true, 0, [[ev, cv, eI q.w, eB q.k]]⟩) := ⟨_, rfl⟩
 have FX : Fwd [] h1 X := by rw [eX]; exact (Fwd.refl _ _).new _
 have nX : X.objs.length = h1.objs.length + 1 := by rw [eX]; simp
 have x0 : X.arr h1.objs.length 0 = some ⟨0, 4, true, 0, [[ev, cv, eI q.w, eB q.k]]⟩ := by rw [eX]; simp
 have PX := P1.trans (pfx FX)
 rw [← eX]
 clear eX
 have hlX : X.lim ≤ X.objs.length := by have := FX.lim; omega
 have anyE : (q.es.map Elem.cells).any (fun x => match x with | [_, .p (.str s), _, _] => decide (8 < s.size) | _ => false) = q.es.any fun e => decide (8 < e.v.size) := by
  rw [List.any_map]; rfl
 have c1 := contains_E (h := X) (v := ev) (fv := .fn (.func 28) [] []) (us := []) (cs := []) (p := fun x => match x with | [_, .p (.str s), _, _] => decide (8 < s.size) | _ => false) rfl (E.pfx PX) (by simp; omega) (by intro x hx; simp at hx; obtain ⟨e, _, rfl⟩ := hx; rfl) hlX (by
  intro x hx h' p' l'
  simp at hx
  obtain ⟨e, _, rfl⟩ := hx
  exact long_elem e)
 have c2 : C0 n_slices_ContainsFunc_29 [cv, .fn (.func 26) [] []] X = some (eB (q.cs.any fun c => decide (32 < c.l.length) || decide (32 < c.r.length)), X) := by
  have key := contains_C (h := X) (v := cv) (fv := .fn (.func 26) [] []) (us := []) (cs := []) (p := fun x => match x with | [_, a, b] => decide (32 < (lenOf 0 a X).getD 0) || decide (32 < (lenOf 0 b X).getD 0) | _ => false) rfl (Cv.pfx PX) (by simp; omega) (by intro x hx; simp at hx; obtain ⟨e, _, rfl⟩ := hx; rfl) hlX (by
   intro x hx h' p' l'
   simp at hx
   obtain ⟨c, hc, rfl⟩ := hx
   have W := (CV c hc).pfx (PX.trans p')
   refine (long_cond W).trans ?_
   simp [Cond.cells, W.l.len, W.r.len])
  rw [key]
  congr 3
  rw [List.any_map]
  refine any_same fun c hc => ?_
  have W := (CV c hc).pfx PX
  simp [Cond.cells, W.l.len, W.r.len]
 rw [anyE] at c1
 unfold limB
 by_cases h1 : q.es.length ≤ 6
 · have h1' : (q.es.length : Int) ≤ 6 := by omega
   by_cases h2 : q.cs.length ≤ 8
   · have h2' : (q.cs.length : Int) ≤ 8 := by omega
     by_cases h3 : 1 ≤ q.w
     · by_cases h4 : q.w ≤ 8
       · simp [h1', h2', h3, h4, E.len, Cv.len, x0, nl (arr_lt x0), E.cells, Cv.cells]
         refine PutA_eq c1 ?_
         cases hb : q.es.any fun e => decide (8 < e.v.size) with
         | true => simp [Ends]
         | false =>
          simp [x0, nl (arr_lt x0), Cv.cells]
          refine PutA_eq c2 ?_
          simp [Ends, h1, h2]
       · simp [h1', h2', h3, h4, E.len, Cv.len, x0, nl (arr_lt x0), E.cells, Cv.cells, Ends]
     · simp [h1', h2', h3, E.len, Cv.len, x0, nl (arr_lt x0), E.cells, Cv.cells, Ends]
   · have h2' : ¬ (q.cs.length : Int) ≤ 8 := by omega
     simp [h1', h2, h2', E.len, Cv.len, x0, nl (arr_lt x0), E.cells, Cv.cells, Ends]
 · have h1' : ¬ (q.es.length : Int) ≤ 6 := by omega
   simp [h1, h1', E.len, x0, nl (arr_lt x0), E.cells, Ends]
end Dk.L
