/- The reference's merged hits. -/
import Derived.Test.YtcbigcpdbidlaaaRef2
set_option linter.unusedVariables false
set_option linter.unusedSimpArgs false
set_option linter.unusedSectionVars false
namespace Dk.Q
open Go Dk

def mSeek : DC := .seq (.seq (.ops [S 35 (.mv (.t 7)),
           S 36 (.bin .gtr .none (.t 35) (xI 0)),
           S 37 (.mv (.t 36)),
           ⟨(some 38), .mv (.t 3), (some (37, true)), []⟩,
           ⟨(some 39), .mv (.t 7), (some (37, true)), []⟩,
           ⟨(some 40), .bin .sub .none (.t 39) (xI 1), (some (37, true)), []⟩,
           ⟨(some 41), .ixa 3 (.t 38) (.t 40), (some (37, true)), []⟩,
           ⟨(some 42), .fld 0 (.t 41), (some (37, true)), []⟩,
           ⟨(some 43), .ld false 1 (.t 42), (some (37, true)), []⟩,
           ⟨(some 44), .fld 0 (.t 6), (some (37, true)), []⟩,
           ⟨(some 45), .ld false 1 (.t 44), (some (37, true)), []⟩,
           ⟨(some 46), .bin .gtr .none (.t 43) (.t 45), (some (37, true)), []⟩,
           S 47 (.pick (.t 37) (.t 46) (xB false))])
         (.cond (.t 47)
          (.skip)
          (.exit 4)))
         (.block 5 (.ops [S 48 (.mv (.t 7)),
            S 49 (.bin .sub .none (.t 48) (xI 1)),
            S 7 (.mv (.t 49))]))
def mIns1 : DC := .ops [S 50 (.lit 3 true [] []),
         S 51 (.mv (.t 3)),
         S 52 (.mv (.t 7)),
         S 53 (.slc 3 (.t 51) (some (.t 52)) none none),
         S 54 (.app 3 true 56 (.t 50) (.t 53)),
         S 8 (.mv (.t 54))]
def mIns2 : DC := .ops [S 55 (.mv (.t 3)),
         S 56 (.mv (.t 7)),
         S 57 (.mv (.t 7)),
         S 58 (.slc 3 (.t 55) none (some (.t 56)) (some (.t 57))),
         S 59 (.ld true 3 (.t 6)),
         S 60 (.lit 3 true [[(eI 0), (.full []), (.full [])]] [(0, (.t 59))]),
         S 62 (.mv (.t 8)),
         S 61 (.app 3 true 56 (.t 58) (.t 60)),
         S 63 (.app 3 true 56 (.t 61) (.t 62)),
         S 3 (.mv (.t 63))]
def mHits : DC := .seq (.seq (.ops [S 15 (.mv (.t 5)),
        S 16 (.mv (.t 0)),
        S 17 (.mv (.t 4)),
        S 18 (.ixa 4 (.t 16) (.t 17)),
        S 19 (.fld 0 (.t 18)),
        S 20 (.ld false 1 (.t 19)),
        S 21 (.len 0 (.t 20)),
        S 22 (.bin .lss .none (.t 15) (.t 21))])
      (.cond (.t 22)
       (.skip)
       (.exit 2)))
      (.seq (.block 3 (.seq (.ops [S 25 (.mv (.t 0)),
         S 26 (.mv (.t 4)),
         S 27 (.ixa 4 (.t 25) (.t 26)),
         S 28 (.fld 0 (.t 27)),
         S 29 (.ld false 1 (.t 28)),
         S 30 (.mv (.t 5)),
         S 31 (.ixa 3 (.t 29) (.t 30)),
         S 32 (.ld true 3 (.t 31)),
         S 6 (.new true [(eI 0), (.full []), (.full [])]),
         E (.st 3 (.t 6) (.t 32))])
       (.seq (.ops [S 33 (.mv (.t 3)),
         S 34 (.len 0 (.t 33)),
         S 7 (.mv (.t 34))])
       (.seq (.block 4 (.loop [0, 3, 4, 5, 6, 7] mSeek))
       (.seq (.ops [S 50 (.lit 3 true [] []),
         S 51 (.mv (.t 3)),
         S 52 (.mv (.t 7)),
         S 53 (.slc 3 (.t 51) (some (.t 52)) none none),
         S 54 (.app 3 true 56 (.t 50) (.t 53)),
         S 8 (.mv (.t 54))])
       (.ops [S 55 (.mv (.t 3)),
         S 56 (.mv (.t 7)),
         S 57 (.mv (.t 7)),
         S 58 (.slc 3 (.t 55) none (some (.t 56)) (some (.t 57))),
         S 59 (.ld true 3 (.t 6)),
         S 60 (.lit 3 true [[(eI 0), (.full []), (.full [])]] [(0, (.t 59))]),
         S 62 (.mv (.t 8)),
         S 61 (.app 3 true 56 (.t 58) (.t 60)),
         S 63 (.app 3 true 56 (.t 61) (.t 62)),
         S 3 (.mv (.t 63))]))))))
      (.ops [S 23 (.mv (.t 5)),
        S 24 (.bin .add .none (.t 23) (xI 1)),
        S 5 (.mv (.t 24))]))
def mOuts : DC := .seq (.seq (.ops [S 9 (.mv (.t 4)),
     S 10 (.mv (.t 0)),
     S 11 (.len 0 (.t 10)),
     S 12 (.bin .lss .none (.t 9) (.t 11))])
   (.cond (.t 12)
    (.skip)
    (.exit 0)))
   (.seq (.block 1 (.seq (.ops [S 5 (.mv (xI 0))])
    (.block 2 (.loop [0, 3, 4, 5] mHits))))
   (.ops [S 13 (.mv (.t 4)),
     S 14 (.bin .add .none (.t 13) (xI 1)),
     S 4 (.mv (.t 14))]))
def Hit.cells2 (x : Hit) : List EV := [eI x.id, .p (.list x.f.sets), .p (.list (x.f.refs.map rPD))]
inductive MV (h : Hp) : EV → List Hit → Prop
  | nil : MV h (.full []) []
  | arr {id g n : Nat} {xs : List Hit} : h.arr id g = some ⟨g, 3, true, 0, xs.map Hit.cells2⟩ → h.lim ≤ id → n = xs.length → MV h (.arr id g 3 0 n false) xs
theorem MV.fwd {h h' : Hp} {v : EV} {xs : List Hit} (H : MV h v xs) (f : Fwd [] h h') : MV h' v xs := by
  cases H with
  | nil => exact .nil
  | arr a b c => exact .arr (f.arr a (by simp)) (by rw [f.lim]; exact b) c
theorem MV.els {h : Hp} {v : EV} {xs : List Hit} (H : MV h v xs) : elsOf 3 v h = some (xs.map Hit.cells2) := by
  cases H with
  | nil => simp [elsOf, sized]
  | arr a b c =>
    subst c
    have : (xs.map Hit.cells2).take xs.length = xs.map Hit.cells2 := List.take_of_length_le (by simp)
    simp [elsOf, a, this]
theorem MV.len {h : Hp} {v : EV} {xs : List Hit} (H : MV h v xs) (X : Hp) : lenOf 0 v X = some xs.length := by
  cases H with
  | nil => rfl
  | arr a b c => simp [lenOf, c]
theorem MV.cut {h : Hp} {v : EV} {xs : List Hit} (H : MV h v xs) {j : Nat} (hj : j ≤ xs.length) :
    (∃ w, sliceOf 3 v (some (eI j)) none none = some w ∧ elsOf 3 w h = some ((xs.map Hit.cells2).drop j)) ∧
    ∃ u, sliceOf 3 v none (some (eI j)) (some (eI j)) = some u ∧ ((u = .full [] ∧ (xs.map Hit.cells2).take j = []) ∨ ∃ id g els, u = .arr id g 3 0 ((xs.map Hit.cells2).take j).length true ∧ h.arr id g = some ⟨g, 3, true, 0, els⟩ ∧ ((xs.map Hit.cells2).take j).length ≤ els.length ∧ (xs.map Hit.cells2).take j = els.take ((xs.map Hit.cells2).take j).length) := by
  have he := H.els
  refine ⟨?_, ?_⟩
  · obtain ⟨w, w1, w2⟩ := els_slice he (lo := some (eI (j : Int))) (hi := none) (l := j) (u := xs.length) (by simp [bounds, upper, lower, bound, hj]) (by simp; omega)
    refine ⟨w, w1, ?_⟩
    rw [w2, List.take_of_length_le (by simp)]
  · cases H with
    | nil =>
      have : j = 0 := by simpa using hj
      subst this
      exact ⟨.full [], by simp [sliceOf, sized, bounds, upper, lower, bound, sliceEls], .inl ⟨rfl, rfl⟩⟩
    | @arr id g n _ a b c =>
      subst c
      have hl : ((xs.map Hit.cells2).take j).length = j := by simp; omega
      by_cases h0 : j = 0
      · subst h0
        exact ⟨.full [], by simp [sliceOf, bounds, upper, lower, bound], .inl ⟨rfl, rfl⟩⟩
      · refine ⟨.arr id g 3 0 j true, ?_, .inr ⟨id, g, xs.map Hit.cells2, by rw [hl], a, by rw [hl]; simpa using hj, by rw [hl]⟩⟩
        simp [sliceOf, bounds, upper, lower, bound, hj, Ne.symm h0]
theorem hits_shows {P : Nat → Prop} {h : Hp} {n : Nat} : ∀ l : List Hit, All2 (ElShows (Shows P h n) true) (l.map Hit.cells2) (l.map Hit.pd)
  | [] => trivial
  | x :: l => ⟨⟨_, rfl, .plain n, .plain n, .plain n, trivial⟩, hits_shows l⟩
theorem MV.shows {h : Hp} {v : EV} {xs : List Hit} (H : MV h v xs) : Shows (fun _ => True) h 8 v (rowPD xs) := by
  cases H with
  | nil => exact .full 8
  | arr a b c =>
    subst c
    refine .inr ⟨_, _, 0, _, false, _, xs.map Hit.pd, rfl, a, by simp, b, trivial, rfl, ?_⟩
    have : (xs.map Hit.cells2).take xs.length = xs.map Hit.cells2 := List.take_of_length_le (by simp)
    simp only [List.drop_zero, this]
    exact hits_shows xs
theorem MV.full {h : Hp} {v : EV} {xs : List Hit} (H : MV h v xs) : ∀ id g sz off len, v ≠ .arr id g sz off len true := by
  cases H with
  | nil => simp
  | arr a b c => simp

theorem mins_ok {f : Fr} {h : Hp} {Q : Ex → Fr → Hp → Prop} {ks : List Ct} {b j : Nat} {v : EV} {xs : List Hit} {x : Hit} (g3 : f.get 3 = v) (g6 : f.get 6 = .ptr b 0 0 0) (g7 : f.get 7 = eI j) (H : MV h v xs) (hj : j ≤ xs.length) (hbig : xs.length < 1000) (ab : h.arr b 0 = some ⟨0, 3, true, 0, [Hit.cells2 x]⟩) (hl : h.lim ≤ h.objs.length)
    (hQ : ∀ f' h' v', (∀ t ∈ [0, 4, 5], f'.get t = f.get t) → f'.get 3 = v' → MV h' v' (xs.take j ++ x :: xs.drop j) → Fwd [] h h' → Run C0 ks .normal f' h' Q) : Run C0 (.code mIns1 :: .code mIns2 :: ks) .normal f h Q := by
  have lb := arr_lt ab
  obtain ⟨⟨w, w1, w2⟩, u, u1, u2⟩ := H.cut hj
  simp only [mIns1, mIns2]
  simp [g3, g6, g7, w1, lk hl]
  have F0 : Fwd [] h (h.new (.cells ⟨0, 3, true, 0, []⟩)) := (Fwd.refl _ _).new _
  refine PutA_of (app_rest (els_fwd w2 F0) (by simp) (by simp; omega)) ?_
  rintro rest h1 ⟨hr1, f1, -⟩
  have F1 : Fwd [] h h1 := F0.trans f1
  have n1 : h.objs.length < h1.objs.length := by have := f1.len; simp at this; omega
  have ab1 := F1.arr ab (by simp)
  simp only [Hit.cells2] at ab1
  simp [g3, g6, g7, ab1, nl lb, u1, ones]
  obtain ⟨h2, e2⟩ : ∃ X, X = h1.new (.cells ⟨0, 3, true, 0, [Hit.cells2 x]⟩) := ⟨_, rfl⟩
  have F2 : Fwd [] h1 h2 := by rw [e2]; exact (Fwd.refl _ _).new _
  have n2 : h2.objs.length = h1.objs.length + 1 := by rw [e2]; simp
  have a2 : h2.arr h1.objs.length 0 = some ⟨0, 3, true, 0, [Hit.cells2 x]⟩ := by rw [e2]; simp
  simp only [Hit.cells2] at e2
  rw [← e2]
  have F02 := F1.trans F2
  have lE : ((xs.map Hit.cells2).take j).length = j := by simp; omega
  refine PutA_eq (app_full (Z := (xs.map Hit.cells2).take j) (row := Hit.cells2 x) (by simp [elsOf, a2]) (by
    rcases u2 with q | ⟨id, g, els, q1, q2, q3⟩
    · exact .inl q
    · exact .inr ⟨id, g, els, q1, F02.arr q2 (by simp), q3⟩) (by omega)) ?_
  simp only [PutV]
  obtain ⟨h3, e3⟩ : ∃ X, X = h2.new (.cells ⟨0, 3, true, 0, (xs.map Hit.cells2).take j ++ [Hit.cells2 x]⟩) := ⟨_, rfl⟩
  rw [← e3]
  have F3 : Fwd [] h2 h3 := by rw [e3]; exact (Fwd.refl _ _).new _
  have a3 : h3.arr h2.objs.length 0 = some ⟨0, 3, true, 0, (xs.map Hit.cells2).take j ++ [Hit.cells2 x]⟩ := by rw [e3]; simp
  have F03 := F02.trans F3
  have n3 : h3.objs.length = h2.objs.length + 1 := by rw [e3]; simp
  simp
  have key := app_in (els_fwd hr1 (F2.trans F3)) a3 (by rw [F03.lim]; omega) (by simp; omega)
  simp at key
  refine PutA_of key ?_
  rintro v' h4 ⟨g, rfl, a4, f4⟩
  have F04 : Fwd [] h h4 := F03.trans' f4 fun y hy => .inr (by simp at hy; omega)
  simp
  have hm : MV h4 (.arr h2.objs.length g 3 0 (min j xs.length + (xs.length - j + 1)) false) (xs.take j ++ x :: xs.drop j) := .arr (by rw [a4]; simp) (by rw [F04.lim]; omega) (by simp)
  exact hQ _ h4 _ (by simp) (by simp) hm F04

structure MSAt (xs : List Hit) (x : Int) (v : EV) (b : Nat) (f0 : Fr) (h0 : Hp) (q : Nat) (f : Fr) (h : Hp) (j : Nat) : Prop where
  e : ∀ t ∈ [0, 4, 5], f.get t = f0.get t
  g3 : f.get 3 = v
  g6 : f.get 6 = .ptr b 0 0 0
  g7 : f.get 7 = eI j
  h : h = h0
  le : j ≤ xs.length
  q : q = j
  ahead : ∀ y ∈ xs.drop j, x < y.id
theorem mseek_ok {f : Fr} {h : Hp} {Q : Ex → Fr → Hp → Prop} {ks : List Ct} {b : Nat} {v : EV} {xs : List Hit} {x : Hit} (g3 : f.get 3 = v) (g6 : f.get 6 = .ptr b 0 0 0) (g7 : f.get 7 = eI xs.length) (H : MV h v xs) (hbig : xs.length < 1000) (ab : h.arr b 0 = some ⟨0, 3, true, 0, [Hit.cells2 x]⟩)
    (hQ : ∀ (f' : Fr) (j : Nat), (∀ t ∈ [0, 4, 5], f'.get t = f.get t) → f'.get 3 = v → f'.get 6 = .ptr b 0 0 0 → f'.get 7 = eI j → j ≤ xs.length → (∀ y ∈ xs.drop j, x.id < y.id) → Run C0 ks .normal f' h Q) :
    Run C0 (.code (.loop [0, 3, 4, 5, 6, 7] mSeek) :: .block 4 :: ks) .normal f h Q := by
  have lb := arr_lt ab
  have he := H.els
  refine Run_loop (fun q f' h' => ∃ j, MSAt xs x.id v b f h q f' h' j) (n := xs.length) ⟨xs.length, fun t _ => rfl, g3, g6, g7, rfl, Nat.le_refl _, rfl, by simp⟩ ?_
  rintro q f2 h2 ⟨j, Ie, I3, I6, I7, rfl, Ile, Iq, Ia⟩
  obtain rfl := Iq.symm
  have e0 := Ie 0 (by simp)
  have e4 := Ie 4 (by simp)
  have e5 := Ie 5 (by simp)
  simp only [Hit.cells2] at ab
  simp only [mSeek]
  by_cases hj : j = 0
  · subst hj
    simp [I3, I6, I7]
    exact hQ _ 0 (by simp [e0, e4, e5]) (by simp [I3]) (by simp [I6]) (by simp [I7]) (by simp) (by simpa using Ia)
  · have hj0 : 0 < j := by omega
    obtain ⟨y, hy⟩ : ∃ y, xs[j - 1]? = some y := ⟨_, List.getElem?_eq_getElem (by omega)⟩
    obtain ⟨z, z', z1, z2, z3⟩ := els_fld he (i := j - 1) (el := Hit.cells2 y) (by simp [hy]) rfl (j := 0) (e := eI y.id) rfl rfl
    have w1 : IntKind.wrap .i64 ((j : Int) - 1) = ((j - 1 : Nat) : Int) := by rw [wrap64 (by omega) (by omega)]; omega
    simp [I3, I6, I7, hj0, ab, nl lb, w1, z1, z2, z3]
    by_cases hc : x.id < y.id
    · simp [hc, I7, w1]
      refine ⟨j - 1, by omega, j - 1, by simp [e0, e4, e5], by simp [I3], by simp [I6], by simp, rfl, by omega, rfl, ?_⟩
      intro z hz
      have hjl' : j - 1 < xs.length := by omega
      rw [List.drop_eq_getElem_cons hjl', (List.getElem?_eq_some_iff.1 hy).2, show j - 1 + 1 = j by omega] at hz
      rcases List.mem_cons.1 hz with rfl | hz
      · exact hc
      · exact Ia z hz
    · simp [hc, I7]
      exact hQ _ j (by simp [e0, e4, e5]) (by simp [I3]) (by simp [I6]) (by simp [I7]) Ile Ia
/-- What came, in order of ids; of one id, as it came. -/
structure Ins (came xs : List Hit) : Prop where
  at_ : ∀ k, atK k xs = atK k came
  wt_ : ∀ w, wt w (hitRefs xs) = wt w (hitRefs came)
  len : xs.length = came.length
theorem Ins.put {came xs : List Hit} {x : Hit} {j : Nat} (H : Ins came xs) (hj : j ≤ xs.length) (h : ∀ y ∈ xs.drop j, x.id < y.id) : Ins (came ++ [x]) (xs.take j ++ x :: xs.drop j) := by
  have sp : ∀ k, atK k xs = atK k (xs.take j) ++ atK k (xs.drop j) := fun k => by
    conv => lhs; rw [← List.take_append_drop j xs]
    simp only [atK, List.filter_append]
  have sr : hitRefs xs = hitRefs (xs.take j) ++ hitRefs (xs.drop j) := by
    conv => lhs; rw [← List.take_append_drop j xs]
    simp only [hitRefs, List.flatMap_append]
  refine ⟨fun k => ?_, fun w => ?_, ?_⟩
  · have hk := H.at_ k
    rw [sp k] at hk
    have e1 : atK k (came ++ [x]) = atK k came ++ if x.id = k then [x] else [] := by
      by_cases e : x.id = k <;> simp [atK, List.filter_append, e]
    have e2 : atK k (xs.take j ++ x :: xs.drop j) = atK k (xs.take j) ++ (if x.id = k then [x] else []) ++ atK k (xs.drop j) := by
      by_cases e : x.id = k <;> simp [atK, List.filter_append, e]
    rw [e1, e2, ← hk]
    by_cases e : x.id = k
    · have z : atK k (xs.drop j) = [] := List.filter_eq_nil_iff.2 fun y hy => by
        have := h y hy
        simp
        omega
      rw [z]
      simp
    · simp [e]
  · have hw := H.wt_ w
    rw [sr, wt_append] at hw
    have e1 : hitRefs (came ++ [x]) = hitRefs came ++ x.f.refs := by simp [hitRefs]
    have e2 : hitRefs (xs.take j ++ x :: xs.drop j) = hitRefs (xs.take j) ++ (x.f.refs ++ hitRefs (xs.drop j)) := by simp [hitRefs]
    rw [e1, e2, wt_append, wt_append, wt_append]
    omega
  · have := H.len
    simp
    omega

structure MHAt (outs : List OutV) (o : OutV) (came0 : List Hit) (i : Nat) (f0 : Fr) (h0 : Hp) (q : Nat) (f : Fr) (h : Hp) (j : Nat) (v : EV) (xs : List Hit) : Prop where
  e : ∀ t ∈ [0, 4], f.get t = f0.get t
  g3 : f.get 3 = v
  g5 : f.get 5 = eI j
  le : j ≤ o.hits.length
  q : q = o.hits.length - j
  mv : MV h v xs
  ins : Ins (came0 ++ o.hits.take j) xs
  fw : Fwd [] h0 h
theorem mhits_ok {outs : List OutV} {o : OutV} {came0 : List Hit} {i : Nat} {f : Fr} {h : Hp} {v : EV} {xs : List Hit} {Q : Ex → Fr → Hp → Prop} {ks : List Ct} (hko : outs[i]? = some o) (oo : OutOK o) (g0 : f.get 0 = .p (.list (outs.map OutV.pd))) (g3 : f.get 3 = v) (g4 : f.get 4 = eI i) (g5 : f.get 5 = eI 0) (H : MV h v xs) (I0 : Ins came0 xs) (hb : came0.length < 100) (hl : h.lim ≤ h.objs.length)
    (hQ : ∀ f' h' v' xs', (∀ t ∈ [0, 4], f'.get t = f.get t) → f'.get 3 = v' → MV h' v' xs' → Ins (came0 ++ o.hits) xs' → Fwd [] h h' → Run C0 ks .normal f' h' Q) : Run C0 (.code (.loop [0, 3, 4, 5] mHits) :: .block 2 :: ks) .normal f h Q := by
  have hol := (List.getElem?_eq_some_iff.1 hko).1
  have ho2 := (List.getElem?_eq_some_iff.1 hko).2
  have few := oo.few
  refine Run_loop (fun q f' h' => ∃ j v xs, MHAt outs o came0 i f h q f' h' j v xs) (n := o.hits.length) ⟨0, v, xs, fun t _ => rfl, g3, g5, by omega, rfl, H, by simpa using I0, Fwd.refl _ _⟩ ?_
  rintro q f2 h2 ⟨j, v2, xs2, Ie, I3, I5, Ile, Iq, IM, II, If⟩
  have e0 := (Ie 0 (by simp)).trans g0
  have e4 := (Ie 4 (by simp)).trans g4
  have l2 := If.limlen hl
  have hlen := II.len
  simp only [mHits]
  by_cases hj : j < o.hits.length
  · obtain ⟨x, hx⟩ : ∃ x, o.hits[j]? = some x := ⟨_, List.getElem?_eq_getElem hj⟩
    have hx2 := (List.getElem?_eq_some_iff.1 hx).2
    have w1 : IntKind.i64.wrap ((j : Int) + 1) = (j : Int) + 1 := wrap64 (by omega) (by omega)
    have tk : o.hits.take (j + 1) = o.hits.take j ++ [x] := by rw [List.take_add_one, hx]; rfl
    have xl : xs2.length < 1000 := by rw [hlen, List.length_append, List.length_take]; omega
    simp [I3, I5, e0, e4, hol, ho2, OutV.pd, rowPD, hj, hx2, Hit.pd, ones, l2, IM.len]
    obtain ⟨X, eX⟩ : ∃ X, X = (h2.new (.cells ⟨0, 3, true, 0, [[eI 0, .full [], .full []]]⟩)).setArr h2.objs.length ⟨0, 3, true, 0, [Hit.cells2 x]⟩ := ⟨_, rfl⟩
    have FX : Fwd [] h2 X := by rw [eX]; repeat first | exact Fwd.refl _ _ | refine Fwd.set ?_ _ (.inr (by simp)) | refine Fwd.new ?_ _
    have xb : X.arr h2.objs.length 0 = some ⟨0, 3, true, 0, [Hit.cells2 x]⟩ := by rw [eX]; simp [Hp.arr_set]
    simp only [Hit.cells2] at eX
    rw [← eX]
    clear eX
    refine mseek_ok (x := x) (by simp [I3]) (by simp) (by simp) (IM.fwd FX) xl xb ?_
    intro f3 k e3 r3 r6 r7 hk ha
    simp only [Run_seq]
    refine mins_ok r3 r6 r7 (IM.fwd FX) hk xl xb (FX.limlen l2) ?_
    intro f4 h4 v4 e4' r34 M4 F4
    have s5 : f4.get 5 = eI j := by rw [e4' 5 (by simp), e3 5 (by simp)]; simp
    simp [s5, w1]
    refine ⟨o.hits.length - (j + 1), by omega, j + 1, v4, _, ?_, by simp [r34], by simp, by omega, rfl, M4, ?_, (If.trans FX).trans F4⟩
    · intro t ht
      simp at ht
      rcases ht with rfl | rfl <;> simp [e4', e3, e0, e4, g0, g4]
    · rw [tk, ← List.append_assoc]
      exact II.put hk ha
  · obtain rfl : j = o.hits.length := by omega
    simp [I5, e0, e4, hol, ho2, OutV.pd, rowPD]
    refine hQ _ h2 v2 xs2 (by simp [e0, e4, g0, g4]) (by simp [I3]) IM (by simpa using II) If

def cameOf (outs : List OutV) : List Hit := outs.flatMap OutV.hits
theorem came_len : ∀ {outs : List OutV}, (∀ o ∈ outs, OutOK o) → (cameOf outs).length ≤ outs.length * 6
  | [], _ => by simp [cameOf]
  | o :: l, h => by
    have h1 := (h o (by simp)).few
    have h2 := came_len (outs := l) fun y hy => h y (by simp [hy])
    simp only [cameOf, List.flatMap_cons, List.length_append, List.length_cons] at h2 ⊢
    omega
structure MOAt (outs : List OutV) (f0 : Fr) (h0 : Hp) (q : Nat) (f : Fr) (h : Hp) (i : Nat) (v : EV) (xs : List Hit) : Prop where
  g0 : f.get 0 = .p (.list (outs.map OutV.pd))
  g3 : f.get 3 = v
  g4 : f.get 4 = eI i
  le : i ≤ outs.length
  q : q = outs.length - i
  mv : MV h v xs
  ins : Ins (cameOf (outs.take i)) xs
  fw : Fwd [] h0 h
theorem merged_ok {outs : List OutV} (O : OutsOK outs) (h : Hp) : ∃ xs, Ins (cameOf outs) xs ∧ C0 n_merged [.p (.list (outs.map OutV.pd))] h = some (.p (rowPD xs), h) := by
  have key : ∃ v, (∃ xs, Ins (cameOf outs) xs ∧ v = .p (rowPD xs)) ∧ C0 n_merged [.p (.list (outs.map OutV.pd))] h = some (v, h) := by
    refine call_locSx (f := n_merged) rfl rfl (by rintro v ⟨xs, -, rfl⟩; simp [EV.under, rowPD]) ?_
    obtain ⟨h0, e0⟩ : ∃ X : Hp, X = ⟨h.objs, h.objs.length⟩ := ⟨_, rfl⟩
    rw [← e0]
    have hl0 : h0.lim ≤ h0.objs.length := by rw [e0]; exact Nat.le_refl _
    clear e0 h
    simp
    obtain ⟨X, eX⟩ : ∃ X, X = (h0.new (.cells ⟨0, 3, true, 0, []⟩)).new (.cells ⟨0, 3, true, 0, []⟩) := ⟨_, rfl⟩
    have x1 : X.arr (h0.objs.length + 1) 0 = some ⟨0, 3, true, 0, []⟩ := by rw [eX]; simp
    have lX : X.lim ≤ h0.objs.length := by rw [eX]; simpa using hl0
    have nX : X.objs.length = h0.objs.length + 2 := by rw [eX]; simp
    rw [← eX]
    clear eX
    refine Run_loop (fun q f' h' => ∃ i v xs, MOAt outs [] X q f' h' i v xs) (n := outs.length) ⟨0, _, [], by simp, by simp, by simp, by omega, rfl, .arr (xs := []) x1 (by omega) rfl, ⟨by simp [cameOf], by simp [cameOf], by simp [cameOf]⟩, Fwd.refl _ _⟩ ?_
    rintro q f2 h2 ⟨i, v2, xs2, I0, I3, I4, Ile, Iq, IM, II, If⟩
    have l2 := If.limlen (by omega)
    by_cases hi : i < outs.length
    · obtain ⟨o, ho⟩ : ∃ o, outs[i]? = some o := ⟨_, List.getElem?_eq_getElem hi⟩
      have w1 : IntKind.i64.wrap ((i : Int) + 1) = (i : Int) + 1 := wrap64 (by rw [O.len] at hi; omega) (by rw [O.len] at hi; omega)
      have tk : cameOf (outs.take (i + 1)) = cameOf (outs.take i) ++ o.hits := by
        rw [List.take_add_one, ho]
        simp [cameOf]
      have cl := came_len (outs := outs.take i) fun y hy => O.all y (List.mem_of_mem_take hy)
      have tl : (outs.take i).length ≤ 3 := by rw [List.length_take, O.len]; omega
      simp [I0, I4, hi]
      refine mhits_ok (outs := outs) (o := o) (i := i) (came0 := cameOf (outs.take i)) ho (O.all o (List.mem_of_getElem? ho)) (by simp) (by simp [I3]) (by simp) (by simp) IM II (by omega) l2 ?_
      intro f3 h3 v3 xs3 e3 r3 M3 I3' F3
      have s0 := e3 0 (by simp)
      have s4 := e3 4 (by simp)
      simp at s0 s4
      simp [s4, w1]
      refine ⟨outs.length - (i + 1), by omega, i + 1, v3, xs3, by simp [s0], by simp [r3], by simp, by omega, rfl, M3, by rw [tk]; exact I3', If.trans F3⟩
    · obtain rfl : i = outs.length := by omega
      rw [List.take_length] at II
      obtain ⟨os, e⟩ := shareV_shows (os := h2.objs) (lim := h2.lim) IM.shows IM.full
      have e' : shareV h2.lim v2 h2.objs = some (.p (rowPD xs2), os) := e
      simp [I0, I3, I4, EndsS, shareVs, e']
      exact ⟨xs2, II, rfl⟩
  obtain ⟨v, ⟨xs, q, rfl⟩, e⟩ := key
  exact ⟨xs, q, e⟩
end Dk.Q
