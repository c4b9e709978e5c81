/- The text of sound codes. -/
import Derived.Test.YtfdghdmdjfgjiaaGreatDoorSound
set_option linter.unusedVariables false
set_option linter.unusedSimpArgs false
set_option linter.unusedSectionVars false
namespace Dk.C
open Go Dk

def tSw : DC := .seq (.ops [S 49 (.bin .eql .none (.t 36) (xI 6)),
       S 48 (.mv (.t 49))])
     (.cond (.t 48)
      (.ops [S 50 (.fld 1 (.t 5)),
        S 51 (.ld false 1 (.t 50)),
        S 52 (.call n_digits [(.t 51)]),
        S 53 (.fld 0 (.t 9)),
        E (.st 1 (.t 53) (.t 52))])
      (.seq (.ops [S 55 (.bin .eql .none (.t 36) (xI 8)),
        S 54 (.mv (.t 55))])
      (.cond (.t 54)
       (.ops [S 56 (.fld 2 (.t 5)),
         S 57 (.ld false 1 (.t 56)),
         S 58 (.bin .add .none (.v (.p (.str (bs [35])))) (.t 57)),
         S 59 (.fld 0 (.t 9)),
         E (.st 1 (.t 59) (.t 58))])
       (.seq (.ops [S 61 (.bin .eql .none (.t 36) (xI 7)),
         S 60 (.mv (.t 61))])
       (.cond (.t 60)
        (.ops [S 62 (.fld 2 (.t 5)),
          S 63 (.ld false 1 (.t 62)),
          S 64 (.bin .add .none (.t 63) (.v (.p (.str (bs [46]))))),
          S 65 (.fld 3 (.t 5)),
          S 66 (.ld false 1 (.t 65)),
          S 67 (.fld 3 (.t 5)),
          S 68 (.ld false 1 (.t 67)),
          S 69 (.bin .add .none (.t 68) (xI 1)),
          S 70 (.sls (.v (.p (.str (bs [120, 121, 122, 119])))) (some (.t 66)) (some (.t 69))),
          S 71 (.bin .add .none (.t 64) (.t 70)),
          S 72 (.fld 0 (.t 9)),
          E (.st 1 (.t 72) (.t 71))])
        (.seq (.ops [S 74 (.bin .eql .none (.t 36) (xI 9)),
          S 73 (.mv (.t 74))])
        (.cond (.t 73)
         (.ops [S 75 (.mv (.t 8)),
           S 76 (.ixa 2 (.t 75) (xI 0)),
           S 77 (.ld true 2 (.t 76)),
           S 78 (.call n_held [(.t 77), (xI 3)]),
           S 79 (.bin .add .none (.v (.p (.str (bs [45])))) (.t 78)),
           S 80 (.build [(.p (.str (bs []))), (eI 0)] [(0, 1, (.t 79)), (1, 1, (xI 3))]),
           E (.st 2 (.t 9) (.t 80))])
         (.seq (.ops [S 82 (.bin .eql .none (.t 36) (xI 1)),
           S 81 (.mv (.t 82))])
         (.cond (.t 81)
          (.ops [S 83 (.mv (.t 8)),
            S 84 (.ixa 2 (.t 83) (xI 0)),
            S 85 (.ld true 2 (.t 84)),
            S 88 (.mv (.t 8)),
            S 89 (.ixa 2 (.t 88) (xI 1)),
            S 90 (.ld true 2 (.t 89)),
            ⟨(some 86), .call n_held [(.t 85), (xI 1)], none, [(90, .ld true 2 (.t 89), none)]⟩,
            S 87 (.bin .add .none (.t 86) (.v (.p (.str (bs [32, 43, 32]))))),
            S 91 (.call n_held [(.t 90), (xI 2)]),
            S 92 (.bin .add .none (.t 87) (.t 91)),
            S 93 (.build [(.p (.str (bs []))), (eI 0)] [(0, 1, (.t 92)), (1, 1, (xI 1))]),
            E (.st 2 (.t 9) (.t 93))])
          (.seq (.ops [S 95 (.bin .eql .none (.t 36) (xI 2)),
            S 94 (.mv (.t 95))])
          (.cond (.t 94)
           (.ops [S 96 (.mv (.t 8)),
             S 97 (.ixa 2 (.t 96) (xI 0)),
             S 98 (.ld true 2 (.t 97)),
             S 101 (.mv (.t 8)),
             S 102 (.ixa 2 (.t 101) (xI 1)),
             S 103 (.ld true 2 (.t 102)),
             ⟨(some 99), .call n_held [(.t 98), (xI 1)], none, [(103, .ld true 2 (.t 102), none)]⟩,
             S 100 (.bin .add .none (.t 99) (.v (.p (.str (bs [32, 45, 32]))))),
             S 104 (.call n_held [(.t 103), (xI 2)]),
             S 105 (.bin .add .none (.t 100) (.t 104)),
             S 106 (.build [(.p (.str (bs []))), (eI 0)] [(0, 1, (.t 105)), (1, 1, (xI 1))]),
             E (.st 2 (.t 9) (.t 106))])
           (.seq (.ops [S 108 (.bin .eql .none (.t 36) (xI 3)),
             S 107 (.mv (.t 108))])
           (.cond (.t 107)
            (.ops [S 109 (.mv (.t 8)),
              S 110 (.ixa 2 (.t 109) (xI 0)),
              S 111 (.ld true 2 (.t 110)),
              S 114 (.mv (.t 8)),
              S 115 (.ixa 2 (.t 114) (xI 1)),
              S 116 (.ld true 2 (.t 115)),
              ⟨(some 112), .call n_held [(.t 111), (xI 2)], none, [(116, .ld true 2 (.t 115), none)]⟩,
              S 113 (.bin .add .none (.t 112) (.v (.p (.str (bs [32, 42, 32]))))),
              S 117 (.call n_held [(.t 116), (xI 3)]),
              S 118 (.bin .add .none (.t 113) (.t 117)),
              S 119 (.build [(.p (.str (bs []))), (eI 0)] [(0, 1, (.t 118)), (1, 1, (xI 2))]),
              E (.st 2 (.t 9) (.t 119))])
            (.seq (.ops [S 121 (.bin .eql .none (.t 36) (xI 4)),
              S 120 (.mv (.t 121))])
            (.cond (.t 120)
             (.ops [S 122 (.mv (.t 8)),
               S 123 (.ixa 2 (.t 122) (xI 0)),
               S 124 (.ld true 2 (.t 123)),
               S 127 (.mv (.t 8)),
               S 128 (.ixa 2 (.t 127) (xI 1)),
               S 129 (.ld true 2 (.t 128)),
               ⟨(some 125), .call n_held [(.t 124), (xI 2)], none, [(129, .ld true 2 (.t 128), none)]⟩,
               S 126 (.bin .add .none (.t 125) (.v (.p (.str (bs [32, 47, 32]))))),
               S 130 (.call n_held [(.t 129), (xI 3)]),
               S 131 (.bin .add .none (.t 126) (.t 130)),
               S 132 (.build [(.p (.str (bs []))), (eI 0)] [(0, 1, (.t 131)), (1, 1, (xI 2))]),
               E (.st 2 (.t 9) (.t 132))])
             (.ops [S 37 (.mv (.t 8)),
               S 38 (.ixa 2 (.t 37) (xI 0)),
               S 39 (.ld true 2 (.t 38)),
               S 42 (.mv (.t 8)),
               S 43 (.ixa 2 (.t 42) (xI 1)),
               S 44 (.ld true 2 (.t 43)),
               ⟨(some 40), .call n_held [(.t 39), (xI 2)], none, [(44, .ld true 2 (.t 43), none)]⟩,
               S 41 (.bin .add .none (.t 40) (.v (.p (.str (bs [32, 37, 32]))))),
               S 45 (.call n_held [(.t 44), (xI 3)]),
               S 46 (.bin .add .none (.t 41) (.t 45)),
               S 47 (.build [(.p (.str (bs []))), (eI 0)] [(0, 1, (.t 46)), (1, 1, (xI 2))]),
               E (.st 2 (.t 9) (.t 47))]))))))))))))))))
def tBody : DC := .seq (.seq (.ops [S 10 (.mv (.t 4)),
     S 11 (.mv (.t 0)),
     S 12 (.len 0 (.t 11)),
     S 13 (.bin .lss .none (.t 10) (.t 12))])
   (.cond (.t 13)
    (.skip)
    (.exit 0)))
   (.seq (.block 1 (.seq (.ops [S 16 (.mv (.t 0)),
      S 17 (.mv (.t 4)),
      S 18 (.ixa 5 (.t 16) (.t 17)),
      S 19 (.ld true 5 (.t 18)),
      S 5 (.new true [(eI 0), (eI 0), (.p (.str (bs []))), (eI 0), (eI 0)]),
      E (.st 5 (.t 5) (.t 19))])
    (.seq (.ops [S 20 (.ld true 5 (.t 5)),
      S 21 (.call n_rtakes [(.t 20)]),
      S 6 (.mv (.t 21))])
    (.seq (.ops [S 22 (.mv (.t 3)),
      S 23 (.mv (.t 3)),
      S 24 (.len 0 (.t 23)),
      S 25 (.mv (.t 6)),
      S 26 (.bin .sub .none (.t 24) (.t 25)),
      S 27 (.slc 2 (.t 22) none (some (.t 26)) none),
      S 7 (.mv (.t 27))])
    (.seq (.ops [S 28 (.mv (.t 3)),
      S 29 (.mv (.t 3)),
      S 30 (.len 0 (.t 29)),
      S 31 (.mv (.t 6)),
      S 32 (.bin .sub .none (.t 30) (.t 31)),
      S 33 (.slc 2 (.t 28) (some (.t 32)) none none),
      S 8 (.mv (.t 33))])
    (.seq (.ops [S 34 (.build [(.p (.str (bs []))), (eI 0)] [(1, 1, (xI 4))]),
      S 9 (.new true [(.p (.str (bs []))), (eI 0)]),
      E (.st 2 (.t 9) (.t 34))])
    (.seq (.seq (.ops [S 35 (.fld 0 (.t 5)),
      S 36 (.ld false 1 (.t 35))])
    (.block 2 tSw))
    (.ops [S 133 (.lit 2 true [] []),
      S 134 (.mv (.t 7)),
      S 136 (.ld true 2 (.t 9)),
      S 137 (.lit 2 true [[(.p (.str (bs []))), (eI 0)]] [(0, (.t 136))]),
      ⟨(some 135), .app 2 true 24 (.t 133) (.t 134), none, [(136, .ld true 2 (.t 9), none)]⟩,
      S 138 (.app 2 true 24 (.t 135) (.t 137)),
      S 3 (.mv (.t 138))]))))))))
   (.ops [S 14 (.mv (.t 4)),
     S 15 (.bin .add .none (.t 14) (xI 1)),
     S 4 (.mv (.t 15))]))
abbrev Part := ByteArray × Int
def pcells (p : Part) : List EV := [.p (.str p.1), eI p.2]
def tot (l : List Part) : Nat := (l.map fun p => p.1.size).sum
theorem tot_append (a b : List Part) : tot (a ++ b) = tot a + tot b := by simp [tot]

theorem sls_one {s : ByteArray} {k : Int} (h : 0 ≤ k ∧ k < s.size) : ∃ t : ByteArray, t.size ≤ 1 ∧ sliceStr (.p (.str s)) (some (eI k)) (some (eI (k + 1))) = some (.p (.str t)) := by
  refine ⟨s.extract k.toNat (k + 1).toNat, ?_, ?_⟩
  · rw [ByteArray.size_extract]; omega
  · have h1 : 0 ≤ k + 1 ∧ k + 1 ≤ (s.size : Int) := by omega
    have h2 : 0 ≤ k ∧ k ≤ ((k + 1).toNat : Int) := by omega
    simp only [sliceStr, bounds, upper, lower, bound, if_pos h1, if_pos h2]
/-- What one code comes to. -/
theorem switch_ok {c : Code} (cok : CodeOK c) {h : Hp} {f : Fr} {cb xb : Nat} {w8 : EV} {tp : List Part} {Q : Ex → Fr → Hp → Prop} {ks : List Ct} (g5 : f.get 5 = .ptr cb 0 0 0) (g8 : f.get 8 = w8) (g9 : f.get 9 = .ptr xb 0 0 0) (g36 : f.get 36 = eI c.op)
    (ac : h.arr cb 0 = some ⟨0, 5, true, 0, [c.cells]⟩) (ax : h.arr xb 0 = some ⟨0, 2, true, 0, [[.p (.str (bs [])), eI 4]]⟩) (top : elsOf 2 w8 h = some (tp.map pcells)) (hk : (tp.length : Int) = tk c) (hs : tot tp < 100000) (hl : h.lim ≤ h.objs.length) (hx : h.lim ≤ xb)
    (hQ : ∀ f' h' s m, (∀ t ∈ [0, 3, 4, 5, 6, 7, 8, 9], f'.get t = f.get t) → h'.arr xb 0 = some ⟨0, 2, true, 0, [[.p (.str s), eI m]]⟩ → s.size ≤ tot tp + 7 → Fwd [xb] h h' → Run C0 ks .normal f' h' Q) :
    Run C0 (.code tSw :: .block 2 :: ks) .normal f h Q := by
  have lc := arr_lt ac
  have lx := arr_lt ax
  simp only [Code.cells] at ac
  have vs := cok.v.size
  by_cases h2 : two c.op
  · have e2 : tk c = 2 := by simp [tk, h2]
    obtain ⟨p1, p2, rfl⟩ : ∃ p1 p2, tp = [p1, p2] := by
      match tp, (show tp.length = 2 by omega) with
      | [p1, p2], _ => exact ⟨p1, p2, rfl⟩
    simp [tot] at hs
    obtain ⟨u1, a1, b1⟩ := els_get top (i := 0) (el := pcells p1) rfl rfl .i64
    obtain ⟨u2, a2, b2⟩ := els_get top (i := 1) (el := pcells p2) rfl rfl .i64
    simp only [pcells] at b1 b2
    obtain ⟨t11, s11, r11⟩ := held_ok (s := p1.1) (m := p1.2) (k := 1) (by omega) hl
    obtain ⟨t12, s12, r12⟩ := held_ok (s := p1.1) (m := p1.2) (k := 2) (by omega) hl
    obtain ⟨t22, s22, r22⟩ := held_ok (s := p2.1) (m := p2.2) (k := 2) (by omega) hl
    obtain ⟨t23, s23, r23⟩ := held_ok (s := p2.1) (m := p2.2) (k := 3) (by omega) hl
    simp only [tSw]
    have eq2 : EV.eqb (.agg [.p (.str p2.1), eI p2.2]) (.agg [.p (.str p2.1), eI p2.2]) = true := by simp [EV.eqb, EV.eqbs, PD.eqb]
    simp at a1 a2
    rcases h2 with h2 | h2 | h2 | h2 | h2
    · have q1 : t11.size + (bs [32, 43, 32]).size < 4294967296 := by simp [bs_size]; omega
      have q2 : (t11 ++ bs [32, 43, 32]).size + t22.size < 4294967296 := by simp [size_add, bs_size]; omega
      simp [g36, h2, g8, a1, b1, a2, b2]
      refine PutC_of (K := fun w h' => w = .p (.str t11) ∧ h' = h) ⟨_, _, r11, rfl, rfl⟩ ?_
      rintro _ h3 ⟨rfl, e3⟩
      rw [e3]
      simp [b2, eq2, bin_sadd _ q1]
      refine PutA_eq r22 ?_
      simp [g9, bin_sadd _ q2, ax, ones, hx, nl lx]
      exact hQ _ _ (t11 ++ bs [32, 43, 32] ++ t22) 1 (by simp [g8, g9, g5]) (by simp [Hp.arr_set, lx]) (by simp [size_add, bs_size, tot]; omega) ((Fwd.refl _ _).set _ (by simp))
    · have q1 : t11.size + (bs [32, 45, 32]).size < 4294967296 := by simp [bs_size]; omega
      have q2 : (t11 ++ bs [32, 45, 32]).size + t22.size < 4294967296 := by simp [size_add, bs_size]; omega
      simp [g36, h2, g8, a1, b1, a2, b2]
      refine PutC_of (K := fun w h' => w = .p (.str t11) ∧ h' = h) ⟨_, _, r11, rfl, rfl⟩ ?_
      rintro _ h3 ⟨rfl, e3⟩
      rw [e3]
      simp [b2, eq2, bin_sadd _ q1]
      refine PutA_eq r22 ?_
      simp [g9, bin_sadd _ q2, ax, ones, hx, nl lx]
      exact hQ _ _ (t11 ++ bs [32, 45, 32] ++ t22) 1 (by simp [g8, g9, g5]) (by simp [Hp.arr_set, lx]) (by simp [size_add, bs_size, tot]; omega) ((Fwd.refl _ _).set _ (by simp))
    · have q1 : t12.size + (bs [32, 42, 32]).size < 4294967296 := by simp [bs_size]; omega
      have q2 : (t12 ++ bs [32, 42, 32]).size + t23.size < 4294967296 := by simp [size_add, bs_size]; omega
      simp [g36, h2, g8, a1, b1, a2, b2]
      refine PutC_of (K := fun w h' => w = .p (.str t12) ∧ h' = h) ⟨_, _, r12, rfl, rfl⟩ ?_
      rintro _ h3 ⟨rfl, e3⟩
      rw [e3]
      simp [b2, eq2, bin_sadd _ q1]
      refine PutA_eq r23 ?_
      simp [g9, bin_sadd _ q2, ax, ones, hx, nl lx]
      exact hQ _ _ (t12 ++ bs [32, 42, 32] ++ t23) 2 (by simp [g8, g9, g5]) (by simp [Hp.arr_set, lx]) (by simp [size_add, bs_size, tot]; omega) ((Fwd.refl _ _).set _ (by simp))
    · have q1 : t12.size + (bs [32, 47, 32]).size < 4294967296 := by simp [bs_size]; omega
      have q2 : (t12 ++ bs [32, 47, 32]).size + t23.size < 4294967296 := by simp [size_add, bs_size]; omega
      simp [g36, h2, g8, a1, b1, a2, b2]
      refine PutC_of (K := fun w h' => w = .p (.str t12) ∧ h' = h) ⟨_, _, r12, rfl, rfl⟩ ?_
      rintro _ h3 ⟨rfl, e3⟩
      rw [e3]
      simp [b2, eq2, bin_sadd _ q1]
      refine PutA_eq r23 ?_
      simp [g9, bin_sadd _ q2, ax, ones, hx, nl lx]
      exact hQ _ _ (t12 ++ bs [32, 47, 32] ++ t23) 2 (by simp [g8, g9, g5]) (by simp [Hp.arr_set, lx]) (by simp [size_add, bs_size, tot]; omega) ((Fwd.refl _ _).set _ (by simp))
    · have q1 : t12.size + (bs [32, 37, 32]).size < 4294967296 := by simp [bs_size]; omega
      have q2 : (t12 ++ bs [32, 37, 32]).size + t23.size < 4294967296 := by simp [size_add, bs_size]; omega
      simp [g36, h2, g8, a1, b1, a2, b2]
      refine PutC_of (K := fun w h' => w = .p (.str t12) ∧ h' = h) ⟨_, _, r12, rfl, rfl⟩ ?_
      rintro _ h3 ⟨rfl, e3⟩
      rw [e3]
      simp [b2, eq2, bin_sadd _ q1]
      refine PutA_eq r23 ?_
      simp [g9, bin_sadd _ q2, ax, ones, hx, nl lx]
      exact hQ _ _ (t12 ++ bs [32, 37, 32] ++ t23) 2 (by simp [g8, g9, g5]) (by simp [Hp.arr_set, lx]) (by simp [size_add, bs_size, tot]; omega) ((Fwd.refl _ _).set _ (by simp))
  · have n2 : c.op ≠ 1 ∧ c.op ≠ 2 ∧ c.op ≠ 3 ∧ c.op ≠ 4 ∧ c.op ≠ 5 := by unfold two at h2; omega
    simp only [tSw]
    by_cases h9 : c.op = 9
    · have e1 : tk c = 1 := by simp [tk, two, h9]
      obtain ⟨p1, rfl⟩ : ∃ p1, tp = [p1] := by
        match tp, (show tp.length = 1 by omega) with
        | [p1], _ => exact ⟨p1, rfl⟩
      simp [tot] at hs
      obtain ⟨u1, a1, b1⟩ := els_get top (i := 0) (el := pcells p1) rfl rfl .i64
      simp only [pcells] at b1
      simp at a1
      obtain ⟨t, st, rt⟩ := held_ok (s := p1.1) (m := p1.2) (k := 3) (by omega) hl
      have q1 : (bs [45]).size + t.size < 4294967296 := by simp [bs_size]; omega
      simp [g36, h9, g8, a1, b1]
      refine PutA_eq rt ?_
      simp [g9, bin_sadd _ q1, ax, ones, hx, nl lx]
      exact hQ _ _ (bs [45] ++ t) 3 (by simp [g8, g9, g5]) (by simp [Hp.arr_set, lx]) (by simp [size_add, bs_size, tot]; omega) ((Fwd.refl _ _).set _ (by simp))
    by_cases h6 : c.op = 6
    · obtain ⟨t, st, rt⟩ := digits_ok cok.n hl
      simp [g36, h6, g5, ac, nl lc]
      refine PutA_eq rt ?_
      simp [g9, ax, ones, hx, nl lx]
      exact hQ _ _ t 4 (by simp [g8, g9, g5]) (by simp [Hp.arr_set, lx]) (by omega) ((Fwd.refl _ _).set _ (by simp))
    by_cases h8 : c.op = 8
    · have q1 : (bs [35]).size + c.v.size < 4294967296 := by simp [bs_size]; omega
      simp [g36, h8, g5, ac, nl lc, bin_sadd _ q1, g9, ax, ones, hx, nl lx]
      exact hQ _ _ (bs [35] ++ c.v) 4 (by simp [g8, g9, g5]) (by simp [Hp.arr_set, lx]) (by simp [size_add, bs_size]; omega) ((Fwd.refl _ _).set _ (by simp))
    by_cases h7 : c.op = 7
    · have hf : 0 ≤ c.f ∧ c.f < 4 := by
        have : 0 ≤ tk c := by omega
        simp [tk, two, h7] at this
        by_cases q : nmB c.v = true ∧ 0 ≤ c.f ∧ c.f < 4
        · exact q.2
        · rw [if_neg q] at this; omega
      have q1 : c.v.size + (bs [46]).size < 4294967296 := by simp [bs_size]; omega
      have w1 : IntKind.i64.wrap (c.f + 1) = c.f + 1 := wrap64 (by omega) (by omega)
      simp [g36, h7, g5, ac, nl lc, bin_sadd _ q1, g9, ax, ones, hx, nl lx, w1]
      obtain ⟨t, st, rt⟩ := sls_one (s := bs [120, 121, 122, 119]) (k := c.f) (by simp [bs_size]; omega)
      have q2 : (c.v ++ bs [46]).size + t.size < 4294967296 := by simp [size_add, bs_size]; omega
      rw [rt]
      simp [g9, bin_sadd _ q2, ax, ones, hx, nl lx]
      exact hQ _ _ (c.v ++ bs [46] ++ t) 4 (by simp [g8, g9, g5]) (by simp [Hp.arr_set, lx]) (by simp [size_add, bs_size]; omega) ((Fwd.refl _ _).set _ (by simp))
    · have : tk c = -1 := by unfold tk; rw [if_neg h2, if_neg h9, if_neg h6, if_neg h8, if_neg h7]
      omega

theorem hts_take {l : List Code} {i : Nat} {c : Code} {n : Int} (h : hts (l.drop i) n = some 1) (hc : l[i]? = some c) : 0 ≤ tk c ∧ tk c ≤ n ∧ hts (l.drop (i + 1)) (n - tk c + 1) = some 1 := by
  have hi := (List.getElem?_eq_some_iff.1 hc).1
  rw [List.drop_eq_getElem_cons hi, (List.getElem?_eq_some_iff.1 hc).2] at h
  simp only [hts] at h
  split at h
  · cases h
  · exact ⟨by omega, by omega, h⟩
theorem tot_split (l : List Part) (k : Nat) : tot l = tot (l.take k) + tot (l.drop k) := by
  conv => lhs; rw [← List.take_append_drop k l]
  rw [tot_append]
theorem own_any {h : Hp} {sz : Nat} {ag : Bool} {v : EV} {els : List (List EV)} {fp : List Nat} (O : Own h sz ag v els fp) (X : Hp) : lenOf 0 v X = some els.length := by
  have e := O.len
  cases O with
  | nil => rfl
  | arr => simpa [lenOf] using e

theorem text_loop {l : List Code} (ok : ∀ c ∈ l, CodeOK c) (hb : l.length < 1000) (hs : hts l 0 = some 1) {h : Hp} {f : Fr} {Q : Ex → Fr → Hp → Prop} {ks : List Ct} {st0 : EV} {fp0 : List Nat} (g0 : f.get 0 = .p (.list (l.map Code.pd))) (g3 : f.get 3 = st0) (g4 : f.get 4 = eI 0) (O : Own h 2 true st0 [] fp0) (hl : h.lim ≤ h.objs.length)
    (hQ : ∀ f' h' st s m fp, f'.get 3 = st → Own h' 2 true st [pcells (s, m)] fp → s.size ≤ 8 * l.length → Run C0 ks .normal f' h' Q) : Run C0 (.code (.loop [0, 3, 4] tBody) :: .block 0 :: ks) .normal f h Q := by
  refine Run_loop (fun q f h' => ∃ (i : Nat) (st : EV) (ps : List Part) (fp : List Nat), f.get 0 = .p (.list (l.map Code.pd)) ∧ f.get 3 = st ∧ f.get 4 = eI (i : Nat) ∧ i ≤ l.length ∧ q = l.length - i ∧ Own h' 2 true st (ps.map pcells) fp ∧ h'.lim ≤ h'.objs.length ∧ hts (l.drop i) ps.length = some 1 ∧ tot ps ≤ 8 * i ∧ ps.length ≤ i) (n := l.length)
    ⟨0, st0, [], fp0, g0, g3, g4, by omega, rfl, O, hl, by simpa using hs, by simp [tot], by simp⟩ ?_
  rintro q f2 h2 ⟨i, st, ps, fp, g0, g3, g4, ile, hq, O, l2, ht, htot, hlen⟩
  simp only [tBody]
  by_cases hi : i < l.length
  · obtain ⟨c, hc⟩ : ∃ c, l[i]? = some c := ⟨_, List.getElem?_eq_getElem hi⟩
    have hc2 := (List.getElem?_eq_some_iff.1 hc).2
    have cok := ok c (List.mem_of_getElem? hc)
    have w1 : IntKind.i64.wrap ((i : Int) + 1) = (i : Int) + 1 := wrap64 (by omega) (by omega)
    obtain ⟨t0, t1, t2⟩ := hts_take ht hc
    have tl := tk_le c
    have rl := own_any O
    rw [List.length_map] at rl
    obtain ⟨N, hN⟩ : ∃ N : Nat, (N : Int) = (ps.length : Int) - tk c := ⟨((ps.length : Int) - tk c).toNat, by omega⟩
    have hNl : N ≤ ps.length := by omega
    have w2 : IntKind.i64.wrap ((ps.length : Int) - tk c) = (N : Int) := by rw [wrap64 (by omega) (by omega)]; omega
    simp [g0, g3, g4, hi, hc2, Code.pd, ones, l2]
    obtain ⟨X, eX⟩ : ∃ X, X = (h2.new (.cells ⟨0, 5, true, 0, [[eI 0, eI 0, .p (.str (bs [])), eI 0, eI 0]]⟩)).setArr h2.objs.length ⟨0, 5, true, 0, [c.cells]⟩ := ⟨_, rfl⟩
    have FX : Fwd [] h2 X := by rw [eX]; exact ((Fwd.refl _ _).new _).set _ (.inr (by simp))
    have nX : X.objs.length = h2.objs.length + 1 := by rw [eX]; simp
    have x0 : X.arr h2.objs.length 0 = some ⟨0, 5, true, 0, [c.cells]⟩ := by rw [eX]; simp [Hp.arr_set]
    have tko := takes_ok cok (h := X) (by rw [FX.lim]; omega)
    simp only [Code.cells] at tko eX
    rw [← eX]
    refine PutA_eq tko ?_
    clear eX
    have OX := O.fwd FX (by simp)
    have lX : X.lim ≤ h2.objs.length := by rw [FX.lim]; exact l2
    obtain ⟨w7, r1, r2⟩ := els_slice OX.els (lo := none) (hi := some (eI (N : Int))) (l := 0) (u := N) (by simp [bounds, upper, lower, bound, hNl]) (by simp; omega)
    obtain ⟨w8, p1, p2⟩ := els_slice OX.els (lo := some (eI (N : Int))) (hi := none) (l := N) (u := ps.length) (by simp [bounds, upper, lower, bound, hNl]) (by simp; omega)
    have r3 : elsOf 2 w7 X = some ((ps.take N).map pcells) := by rw [r2]; simp [List.map_take]
    have p3 : elsOf 2 w8 X = some ((ps.drop N).map pcells) := by rw [p2, List.map_drop, List.take_of_length_le (by simp)]
    clear r2 p2
    simp [rl, w2, r1, p1, ones, lX, nX, show X.lim ≤ h2.objs.length + 1 by omega]
    obtain ⟨Y, eY⟩ : ∃ Y, Y = (X.new (.cells ⟨0, 2, true, 0, [[.p (.str (bs [])), eI 0]]⟩)).setArr (h2.objs.length + 1) ⟨0, 2, true, 0, [[.p (.str (bs [])), eI 4]]⟩ := ⟨_, rfl⟩
    have FY : Fwd [] X Y := by rw [eY]; exact ((Fwd.refl _ _).new _).set _ (.inr (by omega))
    have nY : Y.objs.length = h2.objs.length + 2 := by rw [eY]; simp [nX]
    have y1 : Y.arr (h2.objs.length + 1) 0 = some ⟨0, 2, true, 0, [[.p (.str (bs [])), eI 4]]⟩ := by rw [eY]; simp [Hp.arr_set, nX]
    have y0 := FY.arr x0 (by simp)
    have ly0 := arr_lt y0
    have x0' := x0
    simp only [Code.cells] at x0'
    simp [x0']
    rw [← eY]
    clear eY
    have limY : Y.lim = h2.lim := FY.lim.trans FX.lim
    have tsum := tot_split ps N
    refine switch_ok (c := c) (cb := h2.objs.length) (xb := h2.objs.length + 1) (w8 := w8) (tp := ps.drop N) cok (by simp) (by simp) (by simp) (by simp) y0 y1 (els_fwd p3 FY) (by simp; omega) (by omega) (by omega) (by omega) ?_
    intro f5 h5 s m e5 a5 hsz F5
    have k0 := e5 0 (by simp)
    have k4 := e5 4 (by simp)
    have k7 := e5 7 (by simp)
    have k9 := e5 9 (by simp)
    simp at k0 k4 k7 k9
    clear e5
    have lim5 : h5.lim = h2.lim := F5.lim.trans limY
    have n5 : h2.objs.length + 2 ≤ h5.objs.length := by have := F5.len; omega
    have la5 := arr_lt a5
    have O5 := ((OX.fwd FY (by simp)).fwd F5 fun y hy q => by simp at q; subst q; have := O.lt _ hy; omega)
    have r5 : elsOf 2 w7 h5 = some ((ps.take N).map pcells) := by
      obtain ⟨w, q1, q2⟩ := els_slice O5.els (lo := none) (hi := some (eI (N : Int))) (l := 0) (u := N) (by simp [bounds, upper, lower, bound, hNl]) (by simp; omega)
      rw [r1] at q1
      cases q1
      rw [q2]
      simp [List.map_take]
    simp [k7, k9, a5, nl la5, ones]
    obtain ⟨Z, eZ⟩ : ∃ Z, Z = (h5.new (.cells ⟨0, 2, true, 0, []⟩)).new (.cells ⟨0, 2, true, 0, [[.p (.str s), eI m]]⟩) := ⟨_, rfl⟩
    have FZ : Fwd [] h5 Z := by rw [eZ]; exact ((Fwd.refl _ _).new _).new _
    have nZ : Z.objs.length = h5.objs.length + 2 := by rw [eZ]; simp
    have z0 : Z.arr h5.objs.length 0 = some ⟨0, 2, true, 0, []⟩ := by rw [eZ]; simp
    have z1 : Z.arr (h5.objs.length + 1) 0 = some ⟨0, 2, true, 0, [[.p (.str s), eI m]]⟩ := by rw [eZ]; simp
    rw [← eZ]
    clear eZ
    have limZ : Z.lim = h2.lim := FZ.lim.trans lim5
    have az := FZ.arr a5 (by simp)
    refine PutC_of ((Own.empty true z0 (by omega) : Own Z 2 true (.arr h5.objs.length 0 2 0 0 true) [] [h5.objs.length]).append (x := w7) (ys := (ps.take N).map pcells) (els_fwd r5 FZ) (by simp; omega) (by omega)) ?_
    rintro v6 h6 ⟨fp6, O6, f6, g6⟩
    have a6 := f6.arr az (by simp; omega)
    have z16 := f6.arr z1 (by simp)
    have la6 := arr_lt a6
    have eqv : EV.eqb (.agg [.p (.str s), eI m]) (.agg [.p (.str s), eI m]) = true := by simp [EV.eqb, EV.eqbs, PD.eqb]
    simp [k9, a6, nl la6, eqv]
    refine PutA_of (O6.append (x := .arr (h5.objs.length + 1) 0 2 0 1 true) (ys := [[.p (.str s), eI m]]) (by simp [elsOf, z16]) (by simp; omega) (by rw [f6.lim]; have := f6.len; omega)) ?_
    rintro v7 h7 ⟨fp7, O7, f7, g7⟩
    simp [k0, k4, w1]
    have en : ((ps.take N ++ [(s, m)]).length : Int) = (ps.length : Int) - tk c + 1 := by simp; omega
    refine ⟨l.length - (i + 1), by omega, i + 1, by simp, by omega, rfl, ps.take N ++ [(s, m)], ⟨fp7, by simpa [pcells] using O7⟩, by rw [f7.lim, f6.lim]; have := f7.len; have := f6.len; omega, by rw [en]; exact t2, ?_, by simp; omega⟩
    rw [tot_append]
    simp [tot] at hsz tsum htot ⊢
    omega
  · obtain rfl : i = l.length := by omega
    simp [hts] at ht
    obtain ⟨p, rfl⟩ : ∃ p, ps = [p] := by
      match ps, (show ps.length = 1 by omega) with
      | [p], _ => exact ⟨p, rfl⟩
    simp [g0, g3, g4]
    exact hQ _ h2 st p.1 p.2 fp (by simp [g3]) O (by simp [tot] at htot; omega)

theorem text_ok {l : List Code} (ok : ∀ c ∈ l, CodeOK c) (hb : l.length < 1000) (hs : hts l 0 = some 1) {h : Hp} (hh : h.lim ≤ h.objs.length) : ∃ s : ByteArray, s.size ≤ 8 * l.length ∧ C0 n_Text [.p (.list (l.map Code.pd))] h = some (.p (.str s), h) := by
  suffices hw : ∃ v, (∃ s : ByteArray, v = .p (.str s) ∧ s.size ≤ 8 * l.length) ∧ C0 n_Text [.p (.list (l.map Code.pd))] h = some (v, h) by
    obtain ⟨v, ⟨s, rfl, e⟩, q⟩ := hw
    exact ⟨s, e, q⟩
  refine call_locX noExt_mono (f := n_Text) rfl rfl (fun v ⟨s, e, _⟩ => by subst e; rfl) fun h0 e0 el => ?_
  have hl : h0.lim ≤ h0.objs.length := by omega
  simp
  refine text_loop ok hb hs (st0 := .arr h0.objs.length 0 2 0 0 false) (fp0 := [h0.objs.length]) (by simp) (by simp) (by simp) (Own.empty _ (by simp) (by simpa using hl)) (by simp; omega) ?_
  intro f2 h2 st s m fp g3 O hsz
  obtain ⟨q, q', z1, z2, z3⟩ := els_fld O.els (i := 0) (el := pcells (s, m)) rfl rfl (j := 0) (e := .p (.str s)) rfl rfl
  simp at z1
  simp [g3, z1, z2, z3, Ends, hsz]
end Dk.C
