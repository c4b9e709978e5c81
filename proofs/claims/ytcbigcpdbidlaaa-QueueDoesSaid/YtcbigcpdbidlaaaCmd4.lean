/- All hits of an act, laid. -/
import Derived.Test.YtcbigcpdbidlaaaCmd3
set_option linter.unusedVariables false
set_option linter.unusedSimpArgs false
set_option linter.unusedSectionVars false
namespace Dk.Q
open Go Dk

theorem All2.set {A B : Type} {R : A → B → Prop} {a : A} {b : B} (q : R a b) : ∀ {l : List A} {m : List B} (k : Nat), All2 R l m → All2 R (l.set k a) (m.set k b)
  | [], [], _, _ => trivial
  | _ :: _, _ :: _, 0, ⟨_, r⟩ => ⟨q, r⟩
  | _ :: _, _ :: _, k + 1, ⟨p, r⟩ => ⟨p, r.set q k⟩
  | [], _ :: _, _, q => q.elim
  | _ :: _, [], _, q => q.elim
theorem sorted_put {hits : List Hit} {x : Hit} {j : Nat} (hs : Sorted hits) (hj : j ≤ hits.length) (h1 : ∀ y ∈ hits.drop j, x.id < y.id) (h2 : ∀ y, hits[j - 1]? = some y → j = 0 ∨ y.id ≤ x.id) : Sorted (hits.take j ++ x :: hits.drop j) := by
  have hs0 := hs
  rw [Sorted, ← List.take_append_drop j hits, List.pairwise_append] at hs
  obtain ⟨p1, p2, p3⟩ := hs
  refine List.pairwise_append.2 ⟨p1, List.pairwise_cons.2 ⟨fun y hy => Int.le_of_lt (h1 y hy), p2⟩, fun a ha b hb => ?_⟩
  rcases List.mem_cons.1 hb with rfl | hb
  · obtain ⟨m, hm, rfl⟩ := List.mem_iff_getElem.1 ha
    simp at hm
    have hl : j - 1 < hits.length := by omega
    have q := (h2 _ (List.getElem?_eq_getElem hl)).resolve_left (by omega)
    rw [List.getElem_take]
    by_cases e : m = j - 1
    · subst e; exact q
    · exact Int.le_trans (List.pairwise_iff_getElem.1 hs0 m (j - 1) (by omega) hl (by omega)) q
  · exact p3 a ha b hb

theorem HV.len {P : Nat → Prop} {h : Hp} {v : EV} {l : List Hit} (H : HV P h v l) (X : Hp) : lenOf 0 v X = some l.length := by
  cases H with
  | nil => rfl
  | arr a b c d => simp [lenOf, d.len]
structure GoodO (i : Nat) (o : OutV) : Prop where
  sorted : Sorted o.hits
  few : o.hits.length ≤ i
  hits : ∀ x ∈ o.hits, FndOK x.f ∧ 0 ≤ x.id ∧ x.id ≤ 11
  lost : o.lost = []
def cBody : DC := .seq cA1 (.seq cA2 (.seq (.seq cB0 (.cond (.t 76) (.seq cBA cBB) .skip)) (.seq cC1 (.seq (.block 3 (.loop [1, 2, 4, 7, 8, 9, 10, 11] cL)) (.seq cD1 cD2)))))

theorem hit_round {a : Act} {s : Int} {n0 r i : Nat} {f : Fr} {h : Hp} {rows : List (List EV)} {O : List OutV} {Q : Ex → Fr → Hp → Prop} {ks : List Ct} (I : CAt a s n0 r f h rows O) (g8 : f.get 8 = eI i) (hi : i < a.hits.length) (hi6 : i < 6) (G : ∀ o ∈ O, GoodO i o)
    (hQ : ∀ f' h' rows' O', CAt a s n0 r f' h' rows' O' → f'.get 8 = eI i → (∀ o ∈ O', GoodO (i + 1) o) → Run C0 ks .normal f' h' Q) : Run C0 (.code cBody :: ks) .normal f h Q := by
  obtain ⟨g1, g2, g4, g7, aB, aC, aR, len, ⟨li1, li2⟩, is⟩ := id I
  have lB := arr_lt aB
  have ⟨lr, lh⟩ := I.limlen
  obtain ⟨x0, hx0⟩ : ∃ x, a.hits[i]? = some x := ⟨_, List.getElem?_eq_getElem hi⟩
  have hx1 := (List.getElem?_eq_some_iff.1 hx0).2
  simp only [cBody, Run_seq]
  simp only [cA1]
  simp [g1, g2, g8, aB, Act.cells, nl lB]
  obtain ⟨k1, k2⟩ := restZ_bound (x := IntKind.i64.wrap (a.shard + i)) (n := 3) (by omega)
  refine PutA_eq (rest_ok (by omega) (by omega) _) ?_
  generalize restZ (IntKind.i64.wrap (a.shard + i)) 3 = K at *
  obtain ⟨k, rfl⟩ : ∃ k : Nat, K = k := ⟨K.toNat, by omega⟩
  simp only [cA2]
  simp [g1, g2, g8, aB, Act.cells, nl lB, hi, hx1]
  obtain ⟨d1, d2⟩ := restZ_bound (x := x0) (n := 12) (by omega)
  refine PutA_eq (rest_ok (by omega) (by omega) _) ?_
  generalize restZ x0 12 = Id at *
  simp [g1, g8]
  refine PutA_eq (hit_ok _ _ _) ?_
  simp [g1, g8, ones, lh]
  generalize hn : IntKind.i64.wrap (IntKind.i64.wrap (10 * s) + (i : Int)) = n
  obtain ⟨X, eX⟩ : ∃ X, X = (h.new (.cells ⟨0, 3, true, 0, [[eI 0, .full [], .full []]]⟩)).setArr h.objs.length ⟨0, 3, true, 0, [[eI Id, .full [.list [iN n]], .full [rPD (n, 0)]]]⟩ := ⟨_, rfl⟩
  rw [← eX]
  have FX : Fwd [] h X := by rw [eX]; repeat first | exact Fwd.refl _ _ | refine Fwd.set ?_ _ (.inr (by simp)) | refine Fwd.new ?_ _
  have nX : X.objs.length = h.objs.length + 1 := by rw [eX]; simp
  have xb : X.arr h.objs.length 0 = some ⟨0, 3, true, 0, [[eI Id, .full [.list [iN n]], .full [rPD (n, 0)]]]⟩ := by rw [eX]; simp
  clear eX
  refine odd_ok (P := fun y => h.objs.length < y) (i := i) (s := s) (by simp [g8]) (by simp [g1]) (by simp) xb (by rw [FX.lim]; exact lh) (fun y hy => by omega) (by omega) ?_
  intro f1 h1 x sv rv e1 b1 ex okx sx rx F1
  have F01 : Fwd [] h h1 := FX.trans' F1 fun y hy => .inr (by simp at hy; omega)
  have n1 : h.objs.length < h1.objs.length := by have := F1.len; omega
  have I1 : CAt a s n0 r f1 h1 rows O := I.fwd F01 fun t ht => by
    simp at ht
    rcases ht with rfl | rfl | rfl | rfl <;> exact (e1 _ (by simp)).trans (by simp)
  have h8 : f1.get 8 = eI i := (e1 8 (by simp)).trans (by simp [g8])
  have h9 : f1.get 9 = eI k := (e1 9 (by simp)).trans (by simp)
  have h10 : f1.get 10 = .ptr h.objs.length 0 0 0 := (e1 10 (by simp)).trans (by simp)
  have hOl : O.length = 3 := by rw [← I.is.len]; exact len
  obtain ⟨o, ho⟩ : ∃ o, O[k]? = some o := ⟨_, List.getElem?_eq_getElem (by omega)⟩
  obtain ⟨row, hk, hv, lv, rfl, HVk, hlv, hl0, hu, hd⟩ := I1.is.get ho
  have hk2 := (List.getElem?_eq_some_iff.1 hk).2
  have hkl : k < rows.length := by omega
  have hk3 : k < 3 := by omega
  have Go := G o (List.mem_of_getElem? ho)
  have few := Go.few
  have lr1 := I1.limlen
  simp only [Run_seq, cC1]
  simp [I1.g7, h9, I1.aR, hk, hk2, hk3, len, HVk.len, nl lr1.1]
  have bx : h1.arr h.objs.length 0 = some ⟨0, 3, true, 0, [[eI x.id, sv, rv]]⟩ := by rw [ex]; exact b1
  refine seek_ok (P := fun y => r < y) (r := r) (k := k) (b := h.objs.length) (x := x.id) (by simp [I1.g7]) (by simp [h9]) (by simp [h10]) (by simp) I1.aR len hk HVk (by omega) bx ?_
  intro f2 j e2 h11 hj q1 q2
  have m2 : ∀ t ∈ [1, 2, 4, 7, 8, 9, 10], f2.get t = f1.get t := fun t ht => by
    rw [e2 t ht]
    simp at ht
    rcases ht with rfl | rfl | rfl | rfl | rfl | rfl | rfl <;> simp
  simp only [Run_seq]
  refine insert_ok (P := fun y => r < y) (x := x) ((m2 7 (by simp)).trans I1.g7) ((m2 9 (by simp)).trans h9) ((m2 10 (by simp)).trans h10) h11 I1.aR len hk HVk hj (by omega) bx (sx.mono fun y hy => by omega) (rx.mono fun y hy => by omega) (by have := I1.lim; omega) lr1.2 (fun y hy => by omega) (by omega) ?_
  intro f3 h3 hv' e3 aR3 HV3 F3
  have nr : ∀ y ∈ [r], ¬ (r < y) := by simp
  have l12 := I1.lim
  refine hQ f3 h3 (rows.set k [hv', lv, .full [], .full []]) (O.set k ⟨o.hits.take j ++ x :: o.hits.drop j, o.lost, o.u, o.d⟩) ⟨?_, ?_, ?_, ?_, ?_, ?_, aR3, by simp [len], by rw [F3.lim]; exact l12, ?_⟩ ?_ ?_
  · rw [e3 1 (by simp), m2 1 (by simp)]; exact I1.g1
  · rw [e3 2 (by simp), m2 2 (by simp)]; exact I1.g2
  · rw [e3 4 (by simp), m2 4 (by simp)]; exact I1.g4
  · rw [e3 7 (by simp), m2 7 (by simp)]; exact I1.g7
  · exact F3.arr I1.aB (by simp; omega)
  · exact F3.arr I1.aC (by simp; omega)
  · exact (I1.is.imp fun _ _ => OutRow.fwd F3 nr).set ⟨hv', lv, rfl, HV3, hlv.fwd F3 nr, hl0, hu, hd⟩ k
  · rw [e3 8 (by simp), m2 8 (by simp)]; exact h8
  · intro y hy
    rcases List.mem_or_eq_of_mem_set hy with q | rfl
    · have := G y q
      exact ⟨this.sorted, by have := this.few; omega, this.hits, this.lost⟩
    · refine ⟨sorted_put Go.sorted hj q1 q2, by simp; omega, fun z hz => ?_, Go.lost⟩
      rcases List.mem_append.1 hz with z1 | z1
      · exact Go.hits z (List.mem_of_mem_take z1)
      · rcases List.mem_cons.1 z1 with rfl | z1
        · exact ⟨okx, by rw [ex]; omega, by rw [ex]; omega⟩
        · exact Go.hits z (List.mem_of_mem_drop z1)
end Dk.Q
