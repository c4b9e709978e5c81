/- check.known, check.last. -/
import Derived.Test.YtnhghaianccncaaDoorNms
set_option linter.unusedVariables false
set_option linter.unusedSimpArgs false
set_option linter.unusedSectionVars false
namespace Dk.L
open Go Dk
variable [Mx]
structure LaI (h : Hp) (id : Nat) (m : NM) (c : Cond) (w : EV) (z : Nat) (f : Fr) (h' : Hp) : Prop where
 ex : ∃ i n : Nat, i ≤ (nmsOf c).length ∧ z = (nmsOf c).length - i ∧ Fwd [] h h' ∧ f.get 0 = .map id ∧ f.get 5 = eI n ∧ f.get 9 = w ∧ f.get 10 = eI (nmsOf c).length ∧ f.get 11 = eI i ∧ lastN m c = lastF m n ((nmsOf c).drop i)
theorem last_ok {h : Hp} {c : Cond} {id : Nat} {m : NM} (V : CondV h c) (hc : c.l.length < 1000000 ∧ c.r.length < 1000000) (hl : h.lim ≤ h.objs.length) (hm : h.mapOf id = some (ent m)) :
 C0 n_check_last [.map id, .agg c.cells] h = some (eI (lastN m c), h) := by
 refine call_loc noExt_mono (f := n_check_last) rfl rfl rfl fun h0 e0 el => ?_
 have P0 : Pfx h h0 := .of e0
 have hl : h0.lim ≤ h0.objs.length := by omega
 simp [Cond.cells, ones, V.l.one, V.r.one, V.l.cells, V.r.cells]
 obtain ⟨X, eX⟩ : ∃ X, X = h0.new (.cells ⟨0, 3, true, 0, [[eI c.op, c.lv, c.rv]]⟩) := ⟨_, rfl⟩
 have FX : Fwd [] h0 X := by rw [eX]; exact (Fwd.refl _ _).new _
 have PX := P0.trans (pfx FX)
 rw [← eX]
 clear eX
 obtain ⟨w, hw, ec⟩ := Names_ok (V.pfx PX) hc (FX.limlen hl)
 have W := fun h => hw.view (strs_sized (nmsOf c)) h
 rw [strs_toEV] at W
 have nl := nmsOf_len c
 refine PutA_eq ec ?_
 simp [(W X).len]
 refine Run_loop (LaI h0 id m c w) (n := (nmsOf c).length) ⟨0, 0, by omega, rfl, FX, by simp, by simp, by simp, by simp, by simp, rfl⟩ ?_
 rintro z f1 h1 ⟨i, n, hi, hz, F1, g0, g5, g9, g10, g11, hs⟩
 by_cases hin : i < (nmsOf c).length
 · obtain ⟨s, hx⟩ : ∃ s, (nmsOf c)[i]? = some s := ⟨_, List.getElem?_eq_getElem hin⟩
   have hd : (nmsOf c).drop i = s :: (nmsOf c).drop (i + 1) := by
    rw [List.drop_eq_getElem_cons hin]
    rw [List.getElem?_eq_getElem hin] at hx
    cases hx
    rfl
   rw [hd, lastF] at hs
   obtain ⟨a, a1, a2⟩ := (W h1).get1 (i := i) (e := .p (.str s)) (by rw [List.getElem?_map, hx]; rfl)
   have a2 := a2 h1 (Pfx.refl _)
   have gg := ent_get ((P0.trans (pfx F1)).map hm) s (eI 0)
   have gg : mapGet .str (eI 0) (.map id) (.p (.str s)) h1 = some (eI (atD m s), (findS s m).isSome) := by
    rw [gg]; unfold atD; cases findS s m <;> rfl
   have w3 : IntKind.i64.wrap ((i : Int) + 1) = (i : Int) + 1 := wrap64 (by omega) (by omega)
   simp [g0, g5, g9, g10, g11, hin, a1, a2, gg, w3]
   refine ⟨(nmsOf c).length - (i + 1), by omega, i + 1, _, by omega, rfl, F1, by simp [g0], ?_, by simp [g9], by simp [g10], by simp, hs⟩
   by_cases hlt : n < atD m s
   · simp [hlt]; omega
   · simp [hlt]; omega
 · have hd : (nmsOf c).drop i = [] := List.drop_eq_nil_of_le (by omega)
   rw [hd, lastF] at hs
   simp [g0, g5, g9, g10, g11, hin, Ends, hs]
structure KnI (q : Qry) (h h1 : Hp) (B id : Nat) (cv : EV) (z : Nat) (f : Fr) (h' : Hp) : Prop where
 ex : ∃ i : Nat, i ≤ q.cs.length ∧ z = q.cs.length - i ∧ Fwd [] h h' ∧ f.get 1 = .ptr B 0 0 0 ∧ f.get 3 = .map id ∧ f.get 13 = cv ∧ f.get 14 = eI q.cs.length ∧ f.get 15 = eI i ∧ (q.cs.take i).all (fun c => (nmsOf c).all fun s => (findS s (atM q)).isSome) = true ∧ Fwd [] h1 h'
structure KnJ (q : Qry) (c : Cond) (h1 : Hp) (B id : Nat) (cv : EV) (i : Nat) (w : EV) (z : Nat) (f : Fr) (h' : Hp) : Prop where
 ex : ∃ j : Nat, j ≤ (nmsOf c).length ∧ z = (nmsOf c).length - j ∧ Fwd [] h1 h' ∧ f.get 1 = .ptr B 0 0 0 ∧ f.get 3 = .map id ∧ f.get 13 = cv ∧ f.get 14 = eI q.cs.length ∧ f.get 15 = eI i ∧
  f.get 20 = w ∧ f.get 21 = eI (nmsOf c).length ∧ f.get 22 = eI j ∧ ((nmsOf c).take j).all (fun s => (findS s (atM q)).isSome) = true
theorem known_ok {h : Hp} {q : Qry} {l : List EV} (V : QryV h q l) (he : q.es.length < 1000000) (hcl : q.cs.length < 1000000) (hcs : ∀ c ∈ q.cs, c.l.length < 1000000 ∧ c.r.length < 1000000) (hl : h.lim ≤ h.objs.length) :
 C0 n_check_known [.agg l] h = some (eB (knownB q), h) := by
 have V0 := V
 obtain ⟨ev, cv, rfl, E, Cv, CV⟩ := V
 refine call_loc noExt_mono (f := n_check_known) rfl rfl rfl fun h0 e0 el => ?_
 have P0 : Pfx h h0 := .of e0
 have hl : h0.lim ≤ h0.objs.length := by omega
 simp [ones, E.one, Cv.one, E.cells, Cv.cells]
 obtain ⟨X, eX⟩ : ∃ X, X = h0.new (.cells ⟨0, 4, true, 0, [[ev, cv, eI q.w, eB q.k]]⟩) := ⟨_, rfl⟩
 have FX : Fwd [] h0 X := by rw [eX]; exact (Fwd.refl _ _).new _
 have x0 : X.arr h0.objs.length 0 = some ⟨0, 4, true, 0, [[ev, cv, eI q.w, eB q.k]]⟩ := by rw [eX]; simp
 have PX := P0.trans (pfx FX)
 rw [← eX]
 clear eX
 refine PutA_of (places_ok (V0.pfx PX) he (FX.limlen hl)) ?_
 rintro _ h1 ⟨id, rfl, F1, m1⟩
 have x1 := F1.arr x0 (by simp)
 simp [x1, nl (arr_lt x1), Cv.len, Cv.cells]
 refine Run_loop (KnI q h0 h1 h0.objs.length id cv) (n := q.cs.length) ⟨0, by omega, rfl, FX.trans F1, by simp, by simp, by simp, by simp, by simp, by simp, Fwd.refl _ _⟩ ?_
 rintro z f2 h2 ⟨i, hi, hz, F2, g1, g3, g13, g14, g15, ha, F12⟩
 have lm : h2.lim ≤ h2.objs.length := F2.limlen hl
 have P2 := P0.trans (pfx F2)
 have m2 := F12.map m1 (by simp)
 have x2 := F12.arr x1 (by simp)
 by_cases hin : i < q.cs.length
 · obtain ⟨c, hc⟩ : ∃ c, q.cs[i]? = some c := ⟨_, List.getElem?_eq_getElem hin⟩
   have hm := List.mem_of_getElem? hc
   obtain ⟨a, a1, a2⟩ := Cv.get (i := i) (el := c.cells) (by rw [List.getElem?_map, hc]; rfl) rfl
   have a2 := a2 h2 P2
   have V2 := (CV c hm).pfx P2
   have hta := all_take (p := fun c => (nmsOf c).all fun s => (findS s (atM q)).isSome) hc
   simp [g1, g3, g13, g14, g15, hin, a1, a2, Cond.cells, ones, lm, V2.l.one, V2.r.one, V2.l.cells, V2.r.cells]
   have FY : Fwd [] h2 ((h2.new (.cells ⟨0, 3, true, 0, [[eI 0, .full [], .full []]]⟩)).setArr h2.objs.length ⟨0, 3, true, 0, [[eI c.op, c.lv, c.rv]]⟩) := ((Fwd.refl _ _).new _).set _ (.inr (by omega))
   generalize (h2.new (.cells ⟨0, 3, true, 0, [[eI 0, .full [], .full []]]⟩)).setArr h2.objs.length ⟨0, 3, true, 0, [[eI c.op, c.lv, c.rv]]⟩ = Y at *
   obtain ⟨w, hw, ec⟩ := Names_ok (V2.pfx (pfx FY)) (hcs c hm) (FY.limlen lm)
   have W := fun h => hw.view (strs_sized (nmsOf c)) h
   rw [strs_toEV] at W
   have nl := nmsOf_len c
   have hcc := hcs c hm
   have w3 : ∀ i : Nat, i < 3000000 → IntKind.i64.wrap ((i : Int) + 1) = (i : Int) + 1 := fun i hi => wrap64 (by omega) (by omega)
   refine PutA_eq ec ?_
   simp [(W Y).len]
   refine Run_loop (KnJ q c Y h0.objs.length id cv i w) (n := (nmsOf c).length) ⟨0, by omega, rfl, Fwd.refl _ _, by simp, by simp, by simp, by simp, by simp, by simp, by simp, by simp, by simp⟩ ?_
   rintro y f4 h4 ⟨j, hj, hy, F4, k1, k3, k13, k14, k15, k20, k21, k22, hb⟩
   by_cases hjn : j < (nmsOf c).length
   · obtain ⟨s, hx⟩ : ∃ s, (nmsOf c)[j]? = some s := ⟨_, List.getElem?_eq_getElem hjn⟩
     obtain ⟨a, a1, a2⟩ := (W h4).get1 (i := j) (e := .p (.str s)) (by rw [List.getElem?_map, hx]; rfl)
     have a2 := a2 h4 (Pfx.refl _)
     have gg := ent_get ((FY.trans F4).map m2 (by simp)) s (eI 0)
     have htb := all_take (p := fun s => (findS s (atM q)).isSome) hx
     cases hf : findS s (atM q) with
     | none =>
      rw [hf] at gg
      simp [k1, k3, k13, k14, k15, k20, k21, k22, hjn, a1, a2, gg, Ends, knownB]
      intro hall
      have := hall c hm s (List.mem_of_getElem? hx)
      rw [hf] at this
      cases this
     | some n =>
      rw [hf] at gg
      simp [k1, k3, k13, k14, k15, k20, k21, k22, hjn, a1, a2, gg, w3 j (by omega)]
      exact ⟨(nmsOf c).length - (j + 1), by omega, j + 1, by omega, rfl, F4, by simp [k1], by simp [k3], by simp [k13], by simp [k14], by simp [k15], by simp [k20], by simp [k21], by simp, by rw [htb, hb, hf]; rfl⟩
   · have : (nmsOf c).take j = nmsOf c := List.take_of_length_le (by omega)
     rw [this] at hb
     simp [k1, k3, k13, k14, k15, k20, k21, k22, hjn, w3 i (by omega)]
     exact ⟨q.cs.length - (i + 1), by omega, i + 1, by omega, rfl, (F2.trans FY).trans F4, by simp [k1], by simp [k3], by simp [k13], by simp [k14], by simp, by rw [hta, ha, hb]; rfl, (F12.trans FY).trans F4⟩
 · have : q.cs.take i = q.cs := List.take_of_length_le (by omega)
   rw [this] at ha
   simp [g1, g3, g13, g14, g15, hin, x2, nl (arr_lt x2), E.len, E.cells, m2, ent, Ends, knownB, ha]
   omega
end Dk.L
