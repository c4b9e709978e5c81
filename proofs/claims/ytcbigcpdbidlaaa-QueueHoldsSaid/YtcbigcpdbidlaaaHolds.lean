/- Each ref that came is held, as long as its match waits, and let go once. -/
import Derived.Test.YtcbigcpdbidlaaaHeld
import Derived.Test.YtcbigcpdbidlaaaActs
import Derived.Test.YtcbigcpdbidlaaaSame
set_option linter.unusedVariables false
set_option linter.unusedSimpArgs false
set_option linter.unusedSectionVars false
namespace Dk.Q
open Go Dk

def hHits : DC := .seq (.seq (.ops [S 57 (.mv (.t 16)),
           S 58 (.mv (.t 12)),
           S 59 (.mv (.t 15)),
           S 60 (.ixa 4 (.t 58) (.t 59)),
           S 61 (.fld 0 (.t 60)),
           S 62 (.ld false 1 (.t 61)),
           S 63 (.len 0 (.t 62)),
           S 64 (.bin .lss .none (.t 57) (.t 63))])
         (.cond (.t 64)
          (.skip)
          (.exit 4)))
         (.seq (.block 5 (.ops [S 67 (.mv (.t 8)),
            S 68 (.mv (.t 12)),
            S 69 (.mv (.t 15)),
            S 70 (.ixa 4 (.t 68) (.t 69)),
            S 71 (.fld 0 (.t 70)),
            S 72 (.ld false 1 (.t 71)),
            S 73 (.mv (.t 16)),
            S 74 (.ixa 3 (.t 72) (.t 73)),
            S 75 (.fld 1 (.t 74)),
            S 76 (.fld 1 (.t 75)),
            S 77 (.ld false 1 (.t 76)),
            S 78 (.app 2 true 16 (.t 67) (.t 77)),
            S 8 (.mv (.t 78))]))
         (.ops [S 65 (.mv (.t 16)),
           S 66 (.bin .add .none (.t 65) (xI 1)),
           S 16 (.mv (.t 66))]))
def hOuts : DC := .seq (.seq (.ops [S 51 (.mv (.t 15)),
        S 52 (.mv (.t 12)),
        S 53 (.len 0 (.t 52)),
        S 54 (.bin .lss .none (.t 51) (.t 53))])
      (.cond (.t 54)
       (.skip)
       (.exit 2)))
      (.seq (.block 3 (.seq (.ops [S 16 (.mv (xI 0))])
       (.block 4 (.loop [1, 5, 6, 8, 9, 10, 11, 12, 14, 15, 16] hHits))))
      (.ops [S 55 (.mv (.t 15)),
        S 56 (.bin .add .none (.t 55) (xI 1)),
        S 15 (.mv (.t 56))]))
def hOut : DC := .seq (.seq (.ops [S 22 (.mv (.t 10)),
     S 23 (.mv (.t 1)),
     S 24 (.len 0 (.t 23)),
     S 25 (.bin .lss .none (.t 22) (.t 24)),
     S 26 (.mv (.t 25)),
     ⟨(some 27), .mv (.t 10), (some (26, true)), []⟩,
     ⟨(some 28), .bin .lss .none (.t 27) (xI 40), (some (26, true)), []⟩,
     S 29 (.pick (.t 26) (.t 28) (xB false))])
   (.cond (.t 29)
    (.skip)
    (.exit 0)))
   (.seq (.block 1 (.seq (.ops [S 33 (.mv (.t 1)),
      S 34 (.mv (.t 10)),
      S 35 (.ixa 6 (.t 33) (.t 34)),
      S 36 (.ld true 6 (.t 35)),
      S 37 (.mv (.t 10)),
      S 38 (.bin .add .none (.t 37) (xI 1)),
      S 39 (.call n_command [(.t 36), (.t 38)]),
      S 32 (.mv (.t 39)),
      S 40 (.ext (.t 32) 0),
      S 41 (.ext (.t 32) 1),
      S 11 (.new true [(eI 0), (eI 0), (eI 0), (eI 0), (eI 0), (eI 0), (eI 0), (eI 0), (eI 0), (eI 0), (eI 0), (.full []), (eI 0), (eB false)]),
      E (.st 14 (.t 11) (.t 40)),
      S 12 (.mv (.t 41))])
    (.seq (.ops [S 43 (.mv (.t 6)),
      S 44 (.mv (.t 10)),
      S 45 (.bin .add .none (.t 44) (xI 1)),
      S 46 (.ld true 14 (.t 11)),
      S 47 (.mv (.t 12)),
      S 48 (.call n_qDo [(.t 43), (.t 45), (.t 46), (.t 47)]),
      S 42 (.mv (.t 48)),
      S 49 (.ext (.t 42) 0),
      S 50 (.ext (.t 42) 1),
      S 13 (.new true [(eI 0), (eI 0), (.full [])]),
      E (.st 3 (.t 13) (.t 49)),
      S 14 (.mv (.t 50))])
    (.seq (.seq (.ops [S 15 (.mv (xI 0))])
    (.block 2 (.loop [1, 5, 6, 8, 9, 10, 11, 12, 14, 15] hOuts)))
    (.seq (.seq (.ops [S 79 (.fld 0 (.t 11)),
      S 80 (.ld false 1 (.t 79)),
      S 81 (.bin .eql .none (.t 80) (xI 1))])
    (.cond (.t 81)
     (.ops [S 82 (.mv (.t 8)),
       S 83 (.fld 9 (.t 11)),
       S 84 (.ld true 2 (.t 83)),
       S 85 (.lit 2 true [[(eI 0), (eI 0)]] [(0, (.t 84))]),
       S 86 (.app 2 true 16 (.t 82) (.t 85)),
       S 8 (.mv (.t 86))])
     (.skip)))
    (.seq (.ops [S 87 (.mv (.t 9)),
      S 88 (.mv (.t 14)),
      S 89 (.app 2 true 16 (.t 87) (.t 88)),
      S 9 (.mv (.t 89))])
    (.seq (.ops [S 90 (.mv (.t 8)),
      S 91 (.len 0 (.t 90)),
      S 92 (.mv (.t 9)),
      S 93 (.len 0 (.t 92)),
      S 94 (.bin .sub .none (.t 91) (.t 93)),
      S 7 (.mv (.t 94))])
    (.seq (.ops [S 95 (.mv (.t 7)),
      S 96 (.mv (.t 6)),
      S 97 (.call n_qHeld [(.t 96)]),
      S 98 (.bin .neq .none (.t 95) (.t 97))])
    (.cond (.t 98)
     (.seq (.ops [S 4 (.mv (xB false))])
     (.ret))
     (.skip))))))))))
   (.ops [S 30 (.mv (.t 10)),
     S 31 (.bin .add .none (.t 30) (xI 1)),
     S 10 (.mv (.t 31))]))
def hEnd : DC := .seq (.seq (.ops [S 99 (.mv (.t 17)),
     S 100 (.mv (.t 9)),
     S 101 (.len 0 (.t 100)),
     S 102 (.bin .lss .none (.t 99) (.t 101))])
   (.cond (.t 102)
    (.skip)
    (.exit 6)))
   (.seq (.block 7 (.seq (.ops [S 105 (.mv (.t 9)),
      S 106 (.mv (.t 9)),
      S 107 (.mv (.t 17)),
      S 108 (.ixa 2 (.t 106) (.t 107)),
      S 109 (.ld true 2 (.t 108)),
      S 111 (.mv (.t 8)),
      S 112 (.mv (.t 9)),
      S 113 (.mv (.t 17)),
      S 114 (.ixa 2 (.t 112) (.t 113)),
      S 115 (.ld true 2 (.t 114)),
      ⟨(some 110), .call n_Count6 [(.t 105), (.t 109)], none, [(115, .ld true 2 (.t 114), none)]⟩,
      S 116 (.call n_Count6 [(.t 111), (.t 115)]),
      S 117 (.bin .gtr .none (.t 110) (.t 116))])
    (.cond (.t 117)
     (.seq (.ops [S 4 (.mv (xB false))])
     (.ret))
     (.skip))))
   (.ops [S 103 (.mv (.t 17)),
     S 104 (.bin .add .none (.t 103) (xI 1)),
     S 17 (.mv (.t 104))]))
structure RHAt (o : OutV) (RR : List (Int × Int)) (fr0 : List Nat) (f0 : Fr) (h0 : Hp) (q : Nat) (f : Fr) (h : Hp) (j : Nat) (rv : EV) (fr : List Nat) : Prop where
  e : ∀ t ∈ [1, 5, 6, 9, 10, 11, 12, 14, 15], f.get t = f0.get t
  g8 : f.get 8 = rv
  g16 : f.get 16 = eI j
  le : j ≤ o.hits.length
  q : q = o.hits.length - j
  own : Own h 2 true rv (refCells (RR ++ hitRefs (o.hits.take j))) fr
  gr : Grown fr0 h0 fr
  fw : Fwd fr0 h0 h
theorem hitRefs_len : ∀ {l : List Hit}, (∀ x ∈ l, FndOK x.f) → (hitRefs l).length ≤ l.length * 2
  | [], _ => by simp [hitRefs]
  | x :: l, h => by
    have h1 := (h x (by simp)).refs
    have h2 := hitRefs_len (l := l) fun y hy => h y (by simp [hy])
    simp only [hitRefs, List.flatMap_cons, List.length_append, List.length_cons] at h2 ⊢
    omega
theorem refs_hits {o : OutV} {outs : List OutV} {RR : List (Int × Int)} {k : Nat} {rv : EV} {fr : List Nat} {f : Fr} {h : Hp} {Q : Ex → Fr → Hp → Prop} {ks : List Ct} (hko : outs[k]? = some o) (oo : OutOK o) (g8 : f.get 8 = rv) (g12 : f.get 12 = .p (.list (outs.map OutV.pd))) (g15 : f.get 15 = eI k) (g16 : f.get 16 = eI 0)
    (O : Own h 2 true rv (refCells RR) fr) (hb : RR.length < 100000) (hl : h.lim ≤ h.objs.length)
    (hQ : ∀ f' h' rv' fr', (∀ t ∈ [1, 5, 6, 9, 10, 11, 12, 14, 15], f'.get t = f.get t) → f'.get 8 = rv' → Own h' 2 true rv' (refCells (RR ++ hitRefs o.hits)) fr' → Grown fr h fr' → Fwd fr h h' → Run C0 ks .normal f' h' Q) :
    Run C0 (.code (.loop [1, 5, 6, 8, 9, 10, 11, 12, 14, 15, 16] hHits) :: .block 4 :: ks) .normal f h Q := by
  have hol := (List.getElem?_eq_some_iff.1 hko).1
  have ho2 := (List.getElem?_eq_some_iff.1 hko).2
  have few := oo.few
  refine Run_loop (fun q f' h' => ∃ j rv fr', RHAt o RR fr f h q f' h' j rv fr') (n := o.hits.length) ⟨0, rv, fr, fun t _ => rfl, g8, g16, by omega, rfl, by simpa [hitRefs] using O, fun y hy => .inl hy, Fwd.refl _ _⟩ ?_
  rintro q f2 h2 ⟨j, rv2, fr2, Ie, I8, I16, Ile, Iq, IO, Ig, If⟩
  have e1 := Ie 1 (by simp)
  have e5 := Ie 5 (by simp)
  have e6 := Ie 6 (by simp)
  have e9 := Ie 9 (by simp)
  have e10 := Ie 10 (by simp)
  have e11 := Ie 11 (by simp)
  have e12 := (Ie 12 (by simp)).trans g12
  have e14 := Ie 14 (by simp)
  have e15 := (Ie 15 (by simp)).trans g15
  simp only [hHits]
  by_cases hj : j < o.hits.length
  · obtain ⟨x, hx⟩ : ∃ x, o.hits[j]? = some x := ⟨_, List.getElem?_eq_getElem hj⟩
    have hx2 := (List.getElem?_eq_some_iff.1 hx).2
    have w1 : IntKind.i64.wrap ((j : Int) + 1) = (j : Int) + 1 := wrap64 (by omega) (by omega)
    have tk : o.hits.take (j + 1) = o.hits.take j ++ [x] := by rw [List.take_add_one, hx]; rfl
    have l1 := hitRefs_len (l := o.hits.take j) fun y hy => (oo.hits y (List.mem_of_mem_take hy)).1
    have l2 := (oo.hits x (List.mem_of_getElem? hx)).1.refs
    have l3 : (o.hits.take j).length ≤ 6 := by rw [List.length_take]; omega
    simp [I8, I16, e12, e15, hol, ho2, OutV.pd, rowPD, hj, hx2, Hit.pd]
    refine PutA_of (IO.append (x := .p (.list (x.f.refs.map rPD))) (ys := refCells x.f.refs) (refs_els _ _) (by simp [refCells]; omega) (If.limlen hl)) ?_
    rintro v h3 ⟨fr3, O3, F3, G3⟩
    simp [I16, w1]
    refine ⟨o.hits.length - (j + 1), by omega, j + 1, v, fr3, ?_, by simp, by simp, by omega, rfl, ?_, fun y hy => ?_, If.trans' F3 fun y hy => ?_⟩
    · simp [e1, e5, e6, e9, e10, e11, e12, e14, e15, g12, g15]
    · rw [tk]
      have : refCells (RR ++ hitRefs (o.hits.take j ++ [x])) = refCells (RR ++ hitRefs (o.hits.take j)) ++ refCells x.f.refs := by simp [refCells, hitRefs]
      rw [this]
      exact O3
    · rcases G3 y hy with q | q
      · exact Ig y q
      · have := If.len; exact .inr (by omega)
    · exact Ig y hy
  · obtain rfl : j = o.hits.length := by omega
    simp [I16, e12, e15, hol, ho2, OutV.pd, rowPD]
    refine hQ _ h2 rv2 fr2 ?_ (by simp [I8]) (by simpa using IO) Ig If
    simp [e1, e5, e6, e9, e10, e11, e12, e14, e15, g12, g15]

structure ROAt (outs : List OutV) (RR : List (Int × Int)) (fr0 : List Nat) (f0 : Fr) (h0 : Hp) (q : Nat) (f : Fr) (h : Hp) (k : Nat) (rv : EV) (fr : List Nat) : Prop where
  e : ∀ t ∈ [1, 5, 6, 9, 10, 11, 12, 14], f.get t = f0.get t
  g8 : f.get 8 = rv
  g15 : f.get 15 = eI k
  le : k ≤ outs.length
  q : q = outs.length - k
  own : Own h 2 true rv (refCells (RR ++ outRefs (outs.take k))) fr
  gr : Grown fr0 h0 fr
  fw : Fwd fr0 h0 h
theorem outRefs_len : ∀ {outs : List OutV}, (∀ o ∈ outs, OutOK o) → (outRefs outs).length ≤ outs.length * 12
  | [], _ => by simp [outRefs]
  | o :: l, h => by
    have h0 := h o (by simp)
    have h1 := hitRefs_len fun x hx => (h0.hits x hx).1
    have h2 := outRefs_len (outs := l) fun y hy => h y (by simp [hy])
    have h3 := h0.few
    simp only [outRefs, List.flatMap_cons, List.length_append, List.length_cons] at h2 ⊢
    omega
theorem refs_outs {outs : List OutV} {RR : List (Int × Int)} {rv : EV} {fr : List Nat} {f : Fr} {h : Hp} {Q : Ex → Fr → Hp → Prop} {ks : List Ct} (hok : ∀ o ∈ outs, OutOK o) (few : outs.length ≤ 3) (g8 : f.get 8 = rv) (g12 : f.get 12 = .p (.list (outs.map OutV.pd))) (g15 : f.get 15 = eI 0)
    (O : Own h 2 true rv (refCells RR) fr) (hb : RR.length < 90000) (hl : h.lim ≤ h.objs.length)
    (hQ : ∀ f' h' rv' fr', (∀ t ∈ [1, 5, 6, 9, 10, 11, 12, 14], f'.get t = f.get t) → f'.get 8 = rv' → Own h' 2 true rv' (refCells (RR ++ outRefs outs)) fr' → Grown fr h fr' → Fwd fr h h' → Run C0 ks .normal f' h' Q) :
    Run C0 (.code (.loop [1, 5, 6, 8, 9, 10, 11, 12, 14, 15] hOuts) :: .block 2 :: ks) .normal f h Q := by
  refine Run_loop (fun q f' h' => ∃ k rv fr', ROAt outs RR fr f h q f' h' k rv fr') (n := outs.length) ⟨0, rv, fr, fun t _ => rfl, g8, g15, by omega, rfl, by simpa [outRefs] using O, fun y hy => .inl hy, Fwd.refl _ _⟩ ?_
  rintro q f2 h2 ⟨k, rv2, fr2, Ie, I8, I15, Ile, Iq, IO, Ig, If⟩
  have e1 := Ie 1 (by simp)
  have e5 := Ie 5 (by simp)
  have e6 := Ie 6 (by simp)
  have e9 := Ie 9 (by simp)
  have e10 := Ie 10 (by simp)
  have e11 := Ie 11 (by simp)
  have e12 := (Ie 12 (by simp)).trans g12
  have e14 := Ie 14 (by simp)
  simp only [hOuts]
  by_cases hk : k < outs.length
  · obtain ⟨o, ho⟩ : ∃ o, outs[k]? = some o := ⟨_, List.getElem?_eq_getElem hk⟩
    have w1 : IntKind.i64.wrap ((k : Int) + 1) = (k : Int) + 1 := wrap64 (by omega) (by omega)
    have tk : outs.take (k + 1) = outs.take k ++ [o] := by rw [List.take_add_one, ho]; rfl
    have l1 := outRefs_len (outs := outs.take k) fun y hy => hok y (List.mem_of_mem_take hy)
    have l3 : (outs.take k).length ≤ 3 := by rw [List.length_take]; omega
    simp [I15, e12, hk]
    refine refs_hits (RR := RR ++ outRefs (outs.take k)) (rv := rv2) (fr := fr2) ho (hok o (List.mem_of_getElem? ho)) (by simp [I8]) (by simp [e12]) (by simp) (by simp) IO (by simp; omega) (If.limlen hl) ?_
    intro f3 h3 rv3 fr3 e3 r8 O3 G3 F3
    have r15 := e3 15 (by simp)
    simp at r15
    simp [r15, w1]
    refine ⟨outs.length - (k + 1), by omega, k + 1, rv3, fr3, ?_, by simp [r8], by simp, by omega, rfl, ?_, fun y hy => ?_, If.trans' F3 fun y hy => ?_⟩
    · intro t ht
      simp at ht
      rcases ht with rfl | rfl | rfl | rfl | rfl | rfl | rfl | rfl <;> simp [e3, e1, e5, e6, e9, e10, e11, e12, e14, g12]
    · rw [tk]
      have : refCells (RR ++ outRefs (outs.take k ++ [o])) = refCells (RR ++ outRefs (outs.take k) ++ hitRefs o.hits) := by simp [refCells, outRefs]
      rw [this]
      exact O3
    · rcases G3 y hy with q | q
      · exact Ig y q
      · have := If.len; exact .inr (by omega)
    · exact Ig y hy
  · obtain rfl : k = outs.length := by omega
    simp [I15, e12]
    refine hQ _ h2 rv2 fr2 ?_ (by simp [I8]) (by simpa using IO) Ig If
    simp [e1, e5, e6, e9, e10, e11, e12, e14, g12]
structure HoAt (cf : Conf) (acts : List Act) (id idm : Nat) (q : Nat) (f : Fr) (h : Hp) (i : Nat) (ps : List (Nat × List Nat)) (ls : List (Int × Line)) (rv gv : EV) (fr1 fr2 : List Nat) (RR GG : List (Int × Int)) : Prop where
  g1 : f.get 1 = .p (.list (acts.map Act.pd))
  g5 : f.get 5 = eB true
  g6 : f.get 6 = .ptr id 0 0 0
  g7 : f.get 7 = eI ((RR.length : Int) - GG.length)
  g8 : f.get 8 = rv
  g9 : f.get 9 = gv
  g10 : f.get 10 = eI i
  le : i ≤ 40
  q : q = 40 - i
  desk : DeskAt h id idm ps ⟨cf, ls⟩
  lives : Lives cf ((i : Int) + 1) ls
  o1 : Own h 2 true rv (refCells RR) fr1
  o2 : Own h 2 true gv (refCells GG) fr2
  d1 : ∀ y ∈ fr1, y ∉ own id idm ps
  d2 : ∀ y ∈ fr2, y ∉ own id idm ps
  d3 : ∀ y ∈ fr1, y ∉ fr2
  wts : ∀ w, wt w RR = wt w GG + wt w (heldRefs ls)
  big : RR.length ≤ i * 37
  lim : h.lim = 0
theorem wt_len (l : List (Int × Int)) : wt (fun _ => 1) l = l.length := by
  induction l with
  | nil => rfl
  | cons x l ih => simp only [wt, List.map_cons, List.sum_cons, List.length_cons] at ih ⊢; omega

theorem own_any {h : Hp} {sz : Nat} {ag : Bool} {v : EV} {els : List (List EV)} {fp : List Nat} (O : Own h sz ag v els fp) (X : Hp) : lenOf 0 v X = some els.length := by
  have e := O.len
  cases O with
  | nil => rfl
  | arr => simpa [lenOf] using e
theorem ho_round {cf : Conf} {acts : List Act} {id idm q i : Nat} {f : Fr} {h : Hp} {ps : List (Nat × List Nat)} {ls : List (Int × Line)} {rv gv : EV} {fr1 fr2 : List Nat} {RR GG : List (Int × Int)} {Q : Ex → Fr → Hp → Prop} (hcf : 0 ≤ cf.o ∧ cf.o ≤ 4096 ∧ cf.q ≤ 4) (I : HoAt cf acts id idm q f h i ps ls rv gv fr1 fr2 RR GG)
    (hQ : ∀ f', (∀ t ∈ [5, 7, 8, 9], f'.get t = f.get t) → Q (.exit 0) f' h)
    (hN : ∀ f' h' ps ls rv gv fr1 fr2 RR GG, HoAt cf acts id idm (40 - (i + 1)) f' h' (i + 1) ps ls rv gv fr1 fr2 RR GG → 40 - (i + 1) < q → Q .normal f' h') : Run C0 [.code hOut] .normal (mask [1, 5, 6, 7, 8, 9, 10] f) h Q := by
  obtain ⟨g1, g5, g6, g7, g8, g9, g10, le, hq, H, L, o1, o2, d1, d2, d3, wts, big, lim⟩ := I
  simp only [hOut]
  by_cases hi : i < acts.length
  · by_cases hi2 : i < 40
    · have hi2' : (i : Int) < 40 := by omega
      have w1 : IntKind.i64.wrap ((i : Int) + 1) = (i : Int) + 1 := wrap64 (by omega) (by omega)
      obtain ⟨a, ha⟩ : ∃ a, acts[i]? = some a := ⟨_, List.getElem?_eq_getElem hi⟩
      have ha2 := (List.getElem?_eq_some_iff.1 ha).2
      obtain ⟨c, outs, cok, ce⟩ := command_ok a ((i : Int) + 1) h
      simp only [Act.cells] at ce
      simp [g1, g10, hi, hi2, hi2', ha2, Act.pd, w1]
      refine PutA_eq ce ?_
      simp [ones, Cmd.cells, lim, g6, w1]
      have ko : c.kind = 1 → OutsOK outs := fun k => cok.outs.elim (fun q => q.2) fun q => absurd k q.1
      have hok : ∀ o ∈ outs, OutOK o := fun o hm => cok.outs.elim (fun q => q.2.all o hm) fun q => by rw [q.2] at hm; cases hm
      have few : outs.length ≤ 3 := cok.outs.elim (fun q => by rw [q.2.len]; omega) fun q => by rw [q.2]; simp
      obtain ⟨X, eX⟩ : ∃ X, X = (h.new (.cells ⟨0, 14, true, 0, [[eI 0, eI 0, eI 0, eI 0, eI 0, eI 0, eI 0, eI 0, eI 0, eI 0, eI 0, .full [], eI 0, eB false]]⟩)).setArr h.objs.length ⟨0, 14, true, 0, [c.cells]⟩ := ⟨_, rfl⟩
      have x10 : X.arr h.objs.length 0 = some ⟨0, 14, true, 0, [c.cells]⟩ := by rw [eX]; simp [Hp.arr_set]
      have FX : Fwd [] h X := by rw [eX]; repeat first | exact Fwd.refl _ _ | refine Fwd.set ?_ _ (.inr (by simp)) | refine Fwd.new ?_ _
      have nX : X.objs.length = h.objs.length + 1 := by rw [eX]; simp
      simp only [Cmd.cells] at eX
      rw [← eX]
      clear eX
      have dn := does_ok (s := (i : Int) + 1) (outs := outs) (c := c) (H.fwd FX (by simp)) (by rw [FX.lim, lim]; omega) L.fit (fun y hy e => by have := L.keys.lt y hy; omega) hcf.2.1 ko
      simp only [Cmd.cells] at dn
      refine PutA_of dn ?_
      rintro v Y ⟨⟨err, n, m, r, fm, fr, ps', ls', ms, R, rfl, D, H', O1, O1r, n2, n3, n4⟩, FY⟩
      have L' := does_lives D ko L hcf.1
      have lt := H.lt
      have limY : Y.lim = 0 := FY.lim.trans (FX.lim.trans lim)
      have ov := O1.one
      have nY := FY.len
      have nb10 : h.objs.length ∉ own id idm ps := fun q => Nat.lt_irrefl _ (lt _ q)
      have y10 := FY.arr x10 nb10
      simp [ones, ov.2, limY]
      obtain ⟨Y2, eY⟩ : ∃ Y2, Y2 = (Y.new (.cells ⟨0, 3, true, 0, [[eI 0, eI 0, .full []]]⟩)).setArr Y.objs.length ⟨0, 3, true, 0, [[eI err, eI n, m]]⟩ := ⟨_, rfl⟩
      rw [← eY]
      have F2 : Fwd [] Y Y2 := by rw [eY]; repeat first | exact Fwd.refl _ _ | refine Fwd.set ?_ _ (.inr (by simp)) | refine Fwd.new ?_ _
      have nY2 : Y2.objs.length = Y.objs.length + 1 := by rw [eY]; simp
      clear eY
      have limY2 : Y2.lim = 0 := F2.lim.trans limY
      have p1 := ((o1.fwd FX (by simp)).fwd FY d1).fwd F2 (by simp)
      have p2 := ((o2.fwd FX (by simp)).fwd FY d2).fwd F2 (by simp)
      have pr := O1r.fwd F2 (by simp)
      have y10' := F2.arr y10 (by simp)
      have l1 := o1.lt
      have l2 := o2.lt
      have wl := wts fun _ => 1
      rw [wt_len, wt_len, wt_len] at wl
      refine refs_outs (RR := RR) (rv := rv) (fr := fr1) hok few (by simp [g8]) (by simp) (by simp) p1 (by omega) (by omega) ?_
      intro f3 h3 rv3 fr3 e3 r8 O3 G3 F3
      simp only [Run_seq]
      have s1 : f3.get 1 = .p (.list (acts.map Act.pd)) := (e3 1 (by simp)).trans (by simp [g1])
      have s5 : f3.get 5 = eB true := (e3 5 (by simp)).trans (by simp [g5])
      have s6 : f3.get 6 = .ptr id 0 0 0 := (e3 6 (by simp)).trans (by simp [g6])
      have s9 : f3.get 9 = gv := (e3 9 (by simp)).trans (by simp [g9])
      have s10 : f3.get 10 = eI i := (e3 10 (by simp)).trans (by simp)
      have s11 : f3.get 11 = .ptr h.objs.length 0 0 0 := (e3 11 (by simp)).trans (by simp)
      have s14 : f3.get 14 = r := (e3 14 (by simp)).trans (by simp)
      clear e3
      have z10 := F3.arr y10' (fun q => by have := l1 _ q; omega)
      have lz10 := arr_lt z10
      have lim3 : h3.lim = 0 := F3.lim.trans limY2
      have rl := outRefs_len hok
      simp only [Cmd.cells] at z10
      simp [s11, z10, nl lz10]
      refine Br_join (fun f' h' => ∃ rv' fr', (∀ t ∈ [1, 5, 6, 9, 10, 14], f'.get t = f3.get t) ∧ f'.get 8 = rv' ∧ Own h' 2 true rv' (refCells (RR ++ newRefs c outs)) fr' ∧ Grown fr1 Y2 fr' ∧ Fwd fr1 Y2 h') ?_ ?_
      · by_cases k1 : c.kind = 1
        · simp [k1, s11, z10, nl lz10, r8, ones]
          refine PutA_of ((O3.fwd ((Fwd.refl [] _).new _) (by simp)).append (x := .arr h3.objs.length 0 2 0 1 true) (ys := [[eI c.slot, eI c.gen]]) (by simp [elsOf]) (by simp [refCells]; omega) (by simp; omega)) ?_
          rintro v6 h6 ⟨fr6, O6, f6, g6'⟩
          simp
          have er : refCells (RR ++ newRefs c outs) = refCells (RR ++ outRefs outs) ++ [[eI c.slot, eI c.gen]] := by simp [newRefs, k1, refCells]
          have F6 : Fwd fr3 h3 h6 := ((Fwd.refl fr3 h3).new _).trans' f6 fun y hy => .inl hy
          refine ⟨fr6, by rw [er]; exact O6, fun y hy => ?_, F3.trans' F6 fun y hy => G3 y hy⟩
          rcases g6' y hy with q | q
          · exact G3 y q
          · simp at q; have := F3.len; exact .inr (by omega)
        · have ho : outs = [] := cok.outs.elim (fun q => absurd q.1 k1) fun q => q.2
          have er : RR ++ newRefs c outs = RR ++ outRefs outs := by simp [newRefs, k1, ho, outRefs]
          simp [k1]
          exact ⟨fr3, by rw [er, r8]; exact O3, G3, F3⟩
      rintro f4 h4 ⟨rv4, fr4, e4, r48, O4, G4, F4⟩
      have u1 := (e4 1 (by simp)).trans s1
      have u5 := (e4 5 (by simp)).trans s5
      have u6 := (e4 6 (by simp)).trans s6
      have u9 := (e4 9 (by simp)).trans s9
      have u10 := (e4 10 (by simp)).trans s10
      have u14 := (e4 14 (by simp)).trans s14
      clear e4
      have lim4 : h4.lim = 0 := F4.lim.trans limY2
      have p24 := p2.fwd F4 (fun y hy q => d3 y q hy)
      have pr4 := pr.fwd F4 (fun y hy q => by
        rcases n4 y hy with z | z
        · exact d1 y q z
        · have := l1 y q; omega)
      have dw := does_wt D
      have dl := dw fun _ => 1
      rw [wt_len, wt_len, wt_len, wt_len] at dl
      have rR : (newRefs c outs).length ≤ 37 := by
        unfold newRefs
        split
        · rw [List.length_append, List.length_singleton]; omega
        · simp
      have hl' := held_len L.fit (by have := L.few; omega) hcf.2.1
      simp [u9, u14]
      refine PutA_of (p24.append (x := r) (ys := refCells R) pr4.els (by simp [refCells]; omega) (by omega)) ?_
      rintro gv5 h5 ⟨fr5, O5, F5, G5⟩
      have oldn : ∀ y, y < h.objs.length → y ∉ own id idm ps → y ∉ own id idm ps' := fun y h1 h2 q => by
        rcases n2 y q with z | z
        · exact h2 z
        · omega
      have q1 : ∀ y ∈ fr1, y ∉ own id idm ps' := fun y hy => oldn y (l1 y hy) (d1 y hy)
      have q2 : ∀ y ∈ fr2, y ∉ own id idm ps' := fun y hy => oldn y (l2 y hy) (d2 y hy)
      have D5 : DeskAt h5 id idm ps' ⟨cf, ls'⟩ := ((H'.fwd F2 (by simp)).fwd F4 q1).fwd F5 q2
      have lt' := H'.lt
      have nF4 := F4.len
      have g4 : ∀ y ∈ fr4, y ∉ own id idm ps' := fun y hy => by
        rcases G4 y hy with z | z
        · exact q1 y z
        · intro q; have := lt' y q; omega
      have g5' : ∀ y ∈ fr5, y ∉ own id idm ps' := fun y hy => by
        rcases G5 y hy with z | z
        · exact q2 y z
        · intro q; have := lt' y q; omega
      have r4 : ∀ y ∈ fr4, y < h4.objs.length := O4.lt
      have d45 : ∀ y ∈ fr4, y ∉ fr2 := fun y hy q => by
        rcases G4 y hy with z | z
        · exact d3 y z q
        · have := l2 y q; omega
      have d35 : ∀ y ∈ fr4, y ∉ fr5 := fun y hy q => by
        rcases G5 y q with z | z
        · exact d45 y hy z
        · have := r4 y hy; omega
      have O45 := O4.fwd F5 d45
      have e5 : refCells GG ++ refCells R = refCells (GG ++ R) := by simp [refCells]
      rw [e5] at O5
      have len4 : ∀ Z, lenOf 0 rv4 Z = some (RR ++ newRefs c outs).length := fun Z => by simpa [refCells] using own_any O4 Z
      have len5 : ∀ Z, lenOf 0 gv5 Z = some (GG ++ R).length := fun Z => by simpa [refCells] using own_any O5 Z
      have lim5 : h5.lim = 0 := F5.lim.trans lim4
      have wts' : ∀ w, wt w (RR ++ newRefs c outs) = wt w (GG ++ R) + wt w (heldRefs ls') := fun w => by
        have a1 := wts w
        have a2 := dw w
        rw [wt_append, wt_append]
        omega
      have wl' := wts' fun _ => 1
      rw [wt_len, wt_len, wt_len] at wl'
      have big' : (RR ++ newRefs c outs).length ≤ (i + 1) * 37 := by rw [List.length_append]; omega
      have hw : IntKind.i64.wrap (((RR ++ newRefs c outs).length : Int) - ((GG ++ R).length : Int)) = ((RR ++ newRefs c outs).length : Int) - ((GG ++ R).length : Int) := wrap64 (by omega) (by omega)
      have hh := held_ok D5 L'.fit (by have := L'.few; omega) hcf.2.1
      have hc : ((RR ++ newRefs c outs).length : Int) - ((GG ++ R).length : Int) = ((heldRefs ls').length : Int) := by omega
      generalize hRR : RR ++ newRefs c outs = RR' at *
      generalize hGG : GG ++ R = GG' at *
      simp [r48, len4, len5, hw, u6]
      refine PutA_of hh ?_
      rintro _ h6 ⟨rfl, rfl⟩
      simp [hc, u10, w1]
      refine hN _ _ ps' ls' rv4 gv5 fr4 fr5 RR' GG' ⟨by simp [u1], by simp [u5], by simp [u6], by simp [hc], by simp [r48], by simp, by simp, by omega, rfl, D5, by simpa using L', O45, O5, g4, g5', d35, wts', big', lim5⟩ (by omega)
    · have hi2' : ¬ (i : Int) < 40 := by omega
      simp [g1, g10, hi, hi2, hi2']
      exact hQ _ (by simp [g5, g7, g8, g9])
  · simp [g1, g10, hi]
    exact hQ _ (by simp [g5, g7, g8, g9])

theorem cnt_wt (l : List (Int × Int)) (x : Int × Int) : cnt l x = wt (fun y => if y = x then 1 else 0) l := by
  induction l with
  | nil => rfl
  | cons y l ih =>
    have e : cnt (y :: l) x = cnt l x + if y = x then 1 else 0 := by
      unfold cnt
      rw [List.countP_cons]
      by_cases h : y = x <;> simp [h]
    have e2 : wt (fun y => if y = x then 1 else 0) (y :: l) = (if y = x then 1 else 0) + wt (fun y => if y = x then 1 else 0) l := by simp [wt]
    rw [e, e2, ih]
    omega
theorem end_ok {h : Hp} {rv gv : EV} {RR GG : List (Int × Int)} {f : Fr} {Q : Ex → Fr → Hp → Prop} {ks : List Ct} (E1 : elsOf 2 rv h = some (refCells RR)) (E2 : elsOf 2 gv h = some (refCells GG)) (b1 : RR.length < 100000) (b2 : GG.length < 100000) (hc : ∀ x, cnt GG x ≤ cnt RR x)
    (g5 : f.get 5 = eB true) (g8 : f.get 8 = rv) (g9 : f.get 9 = gv) (g17 : f.get 17 = eI 0)
    (hQ : ∀ f', f'.get 5 = eB true → f'.get 7 = f.get 7 → Run C0 ks .normal f' h Q) : Run C0 (.code (.loop [5, 7, 8, 9, 17] hEnd) :: .block 6 :: ks) .normal f h Q := by
  refine Run_loop (fun q f' h' => ∃ j : Nat, h' = h ∧ (∀ t ∈ [5, 7, 8, 9], f'.get t = f.get t) ∧ f'.get 17 = eI j ∧ j ≤ GG.length ∧ q = GG.length - j) (n := GG.length) ⟨0, rfl, fun t _ => rfl, g17, by omega, rfl⟩ ?_
  rintro q f2 h2 ⟨j, rfl, Ie, I17, Ile, Iq⟩
  have e5 := (Ie 5 (by simp)).trans g5
  have e7 := Ie 7 (by simp)
  have e8 := (Ie 8 (by simp)).trans g8
  have e9 := (Ie 9 (by simp)).trans g9
  have elen : lenOf 0 gv h2 = some GG.length := by simpa [refCells] using els_len E2
  simp only [hEnd]
  by_cases hj : j < GG.length
  · obtain ⟨x, hx⟩ : ∃ x, GG[j]? = some x := ⟨_, List.getElem?_eq_getElem hj⟩
    obtain ⟨q1, q2, q3⟩ := els_get E2 (i := j) (el := [eI x.1, eI x.2]) (by simp [refCells, hx]) rfl .i64
    have w1 : IntKind.i64.wrap ((j : Int) + 1) = (j : Int) + 1 := wrap64 (by omega) (by omega)
    have hcx := hc x
    simp [I17, e9, elen, hj, q2, q3]
    refine PutC_of (K := fun w h' => w = eI (cnt GG x) ∧ h' = h2) ⟨_, _, count_ok E2 x (by omega), rfl, rfl⟩ ?_
    rintro _ h3 ⟨rfl, rfl⟩
    simp [q3, e8]
    refine PutA_eq (count_ok E1 x (by omega)) ?_
    have hcx' : ¬ ((cnt RR x : Int) < (cnt GG x : Int)) := by omega
    have hcx2 : decide (cnt RR x < cnt GG x) = false := by simpa using hcx
    simp [I17, hcx, hcx', hcx2, w1]
    exact ⟨GG.length - (j + 1), by omega, ⟨by rw [e5, g5], e7, g8.symm, g9.symm⟩, j + 1, by omega, by omega, rfl⟩
  · simp [I17, e9, elen, hj]
    exact hQ _ (by simp [e5]) (by simp [e7])

theorem queueHolds_ok (q0 q1 : Int) (acts : List Act) (hl : acts.length ≤ maxLen) : C0 n_QueueHolds [.agg [eI q0, eI q1], .p (.list (acts.map Act.pd))] ⟨[], 0⟩ = some (eB true, ⟨[], 0⟩) := by
  refine call_loc noExt_mono (f := n_QueueHolds) rfl rfl rfl fun h0 e0 el => ?_
  obtain ⟨os, lim⟩ := h0
  simp at e0 el
  subst e0 el
  simp
  obtain ⟨X, eX⟩ : ∃ X : Hp, X = (⟨[], 0⟩ : Hp).new (.cells ⟨0, 2, true, 0, [[eI q0, eI q1]]⟩) := ⟨_, rfl⟩
  have aw : C0 n_qawake [] X = some (eB true, X) := by rw [eX]; exact awake_one _
  have x0 : X.arr 0 0 = some ⟨0, 2, true, 0, [[eI q0, eI q1]]⟩ := by rw [eX]; rfl
  have lX : X.lim = 0 := by rw [eX]; rfl
  have nX : X.objs.length = 1 := by rw [eX]; rfl
  rw [← eX]
  clear eX
  refine PutA_eq aw ?_
  simp [x0]
  refine PutA_eq (config_ok q0 q1 _) ?_
  obtain ⟨a1, a2⟩ := restZ_bound (x := q0) (n := 4) (by omega)
  obtain ⟨b1, b2⟩ := restZ_bound (x := q1) (n := 6) (by omega)
  have hc : 1 ≤ (confOf q0 q1).q ∧ (confOf q0 q1).q ≤ 4 ∧ 1 ≤ (confOf q0 q1).o ∧ (confOf q0 q1).o ≤ 4096 := by simp only [confOf]; omega
  simp
  refine PutA_of (new_ok (confOf q0 q1) X (by omega) ⟨hc.1, by omega, hc.2.2.1, hc.2.2.2⟩) ?_
  rintro v Y ⟨id, idm, rfl, H, m1, m2, f1⟩
  have lY : Y.lim = 0 := f1.lim.trans lX
  simp
  obtain ⟨Z, eZ⟩ : ∃ Z, Z = (Y.new (.cells ⟨0, 2, true, 0, []⟩)).new (.cells ⟨0, 2, true, 0, []⟩) := ⟨_, rfl⟩
  have FZ : Fwd [] Y Z := by rw [eZ]; repeat first | exact Fwd.refl _ _ | refine Fwd.new ?_ _
  have z1 : Z.arr Y.objs.length 0 = some ⟨0, 2, true, 0, []⟩ := by rw [eZ]; simp
  have z2 : Z.arr (Y.objs.length + 1) 0 = some ⟨0, 2, true, 0, []⟩ := by rw [eZ]; simp
  have lZ : Z.lim = 0 := FZ.lim.trans lY
  rw [← eZ]
  clear eZ
  have lv : Lives (confOf q0 q1) (((0 : Nat) : Int) + 1) [] := ⟨⟨by simp, by intro y hy; cases hy⟩, by show (0 : Int) ≤ (confOf q0 q1).q; omega, by intro y hy; cases hy⟩
  have lt := H.lt
  have O1 : Own Z 2 true (.arr Y.objs.length 0 2 0 0 false) (refCells []) [Y.objs.length] := by simpa [refCells] using Own.arr (off := 0) (len := 0) (f := false) z1 (by simp) (by simp) (by omega)
  have O2 : Own Z 2 true (.arr (Y.objs.length + 1) 0 2 0 0 false) (refCells []) [Y.objs.length + 1] := by simpa [refCells] using Own.arr (off := 0) (len := 0) (f := false) z2 (by simp) (by simp) (by omega)
  refine Run_loop (fun q f h => ∃ i ps ls rv gv fr1 fr2 RR GG, HoAt (confOf q0 q1) acts id idm q f h i ps ls rv gv fr1 fr2 RR GG) (n := 40) ⟨0, [], [], _, _, _, _, [], [], by simp, by simp, by simp, by simp, by simp, by simp, by simp, by omega, rfl, H.fwd FZ (by simp), lv, O1, O2, fun y hy q => ?_, fun y hy q => ?_, fun y hy q => ?_, fun w => rfl, by simp, lZ⟩ ?_
  · have := lt y q; simp at hy; omega
  · have := lt y q; simp at hy; omega
  · simp at hy q; omega
  rintro q f h ⟨i, ps, ls, rv, gv, fr1, fr2, RR, GG, I⟩
  refine ho_round ⟨by omega, hc.2.2.2, hc.2.1⟩ I (fun f' e => ?_) (fun f' h' ps ls rv gv fr1 fr2 RR GG J hq => ⟨_, hq, _, ps, ls, rv, gv, fr1, fr2, RR, GG, J⟩)
  have wl := I.wts fun _ => 1
  rw [wt_len, wt_len, wt_len] at wl
  have big := I.big
  have le := I.le
  simp
  refine end_ok I.o1.els I.o2.els (by omega) (by omega) (fun x => ?_) (by simpa using (e 5 (by simp)).trans I.g5) (by simpa using (e 8 (by simp)).trans I.g8) (by simpa using (e 9 (by simp)).trans I.g9) (by simp) ?_
  · rw [cnt_wt, cnt_wt]
    have := I.wts fun y => if y = x then 1 else 0
    omega
  · intro f2 s5 s7
    have s7' : f2.get 7 = eI ((RR.length : Int) - GG.length) := by rw [s7]; simpa using (e 7 (by simp)).trans I.g7
    have hp : (0 : Int) ≤ (RR.length : Int) - GG.length := by omega
    simp [s5, s7', hp, Ends]
    omega
theorem queueHolds_D : ∀ xss, Typed [([.int .i64, .int .i64], true), ([.slice [.int .i64, .int .i64, .int .i64, .slice [.int .i64] false, .slice [.int .i64] false, .int .i64] true], false)] xss → C0 n_QueueHolds (argsEV [([.int .i64, .int .i64], true), ([.slice [.int .i64, .int .i64, .int .i64, .slice [.int .i64] false, .slice [.int .i64] false, .int .i64] true], false)] xss) ⟨[], 0⟩ = some (eB true, ⟨[], 0⟩) := law_acts queueHolds_ok
end Dk.Q
