/- Queries by plain numbers: a condition. -/
import Derived.Test.YtfdghdmdjfgjiaaGreatDoorMade2
set_option linter.unusedVariables false
set_option linter.unusedSimpArgs false
set_option linter.unusedSectionVars false
namespace Dk.C
open Go Dk

def mCo : DC := .seq (.seq (.ops [S 77 (.mv (.t 12)),
     S 78 (.mv (.t 3)),
     S 79 (.call n_Next [(.t 78), (xI 3)]),
     S 80 (.bin .lss .none (.t 77) (.t 79))])
   (.cond (.t 80)
    (.skip)
    (.exit 2)))
   (.seq (.block 3 (.seq (.ops [S 83 (.mv (.t 7)),
      S 13 (.mv (.t 83))])
    (.seq (.seq (.ops [S 84 (.mv (.t 8)),
      S 85 (.bin .geq .none (.t 84) (xI 0)),
      S 86 (.mv (.t 85)),
      ⟨(some 87), .mv (.t 3), (some (86, true)), []⟩,
      ⟨(some 88), .call n_Next [(.t 87), (xI 2)], (some (86, true)), []⟩,
      ⟨(some 89), .bin .eql .none (.t 88) (xI 0), (some (86, true)), []⟩,
      S 90 (.pick (.t 86) (.t 89) (xB false))])
    (.cond (.t 90)
     mNs
     (.skip)))
    (.ops [S 114 (.fld 1 (.t 4)),
      S 115 (.ld false 1 (.t 114)),
      S 116 (.mv (.t 3)),
      S 119 (.mv (.t 3)),
      S 120 (.mv (.t 13)),
      S 122 (.mv (.t 3)),
      S 123 (.mv (.t 13)),
      ⟨(some 117), .call n_Next [(.t 116), (xI 6)], none, [(115, .ld false 1 (.t 114), none)]⟩,
      S 118 (.bin .add .none (xI 1) (.t 117)),
      ⟨(some 121), .call n_Codes [(.t 119), (.t 120), (xI 2)], none, [(115, .ld false 1 (.t 114), none)]⟩,
      ⟨(some 124), .call n_Codes [(.t 122), (.t 123), (xI 1)], none, [(115, .ld false 1 (.t 114), none)]⟩,
      S 125 (.build [(eI 0), (.full []), (.full [])] [(0, 1, (.t 118)), (1, 1, (.t 121)), (2, 1, (.t 124))]),
      S 126 (.lit 3 true [[(eI 0), (.full []), (.full [])]] [(0, (.t 125))]),
      S 127 (.app 3 true 56 (.t 115) (.t 126)),
      S 128 (.fld 1 (.t 4)),
      E (.st 1 (.t 128) (.t 127))]))))
   (.ops [S 81 (.mv (.t 12)),
     S 82 (.bin .add .none (.t 81) (xI 1)),
     S 12 (.mv (.t 82))]))
variable {xs : List Int} {rz rb qb ab n : Nat} {w : Int} {kk : Bool} {h h' : Hp} {es : List Elem} {cs : List Cc} {tv ev cv : EV} {ths : List ByteArray} {fe fc ft : List Nat}
theorem own_eqb {h : Hp} {sz : Nat} {ag : Bool} {v : EV} {els : List (List EV)} {fp : List Nat} (O : Own h sz ag v els fp) : EV.eqb v v = true := by
  cases O with
  | nil => simp [EV.eqb, PD.eqbs]
  | arr _ _ _ _ => simp [EV.eqb]
/-- Names for a condition. -/
structure NsJ (xs : List Int) (rz rb qb ab n : Nat) (w : Int) (kk : Bool) (es : List Elem) (cs : List Cc) (tv : EV) (ths : List ByteArray) (ev cv : EV) (fe fc ft : List Nat) (nt : Int) (i : Nat) (f : Fr) (h : Hp) : Prop where
  m : MdAt xs rz rb qb ab w kk h es cs tv ths ev cv fe fc ft
  g : MdF rz rb qb ab n tv nt f
  i : f.get 12 = eI i
  ex : ∃ nms fn, Names h (f.get 13) nms fn ∧ ∀ y ∈ fn, ab < y
theorem co_rnd {f : Fr} {i : Nat} {nt : Int} {Q : Ex → Fr → Hp → Prop} (hx : xs.length ≤ 80) (M : MdAt xs rz rb qb ab w kk h es cs tv ths ev cv fe fc ft) (G : MdF rz rb qb ab n tv nt f) (g12 : f.get 12 = eI i) (hn : n ≤ 4) (hes : es.length = n) (hth : ths.length ≤ n ∧ 0 < ths.length) (hnt : -1 ≤ nt ∧ nt < n) (hi : i ≤ 2) (hcs : cs.length = i)
    (hQ : ∀ f' h', MdAt xs rz rb qb ab w kk h' es cs tv ths ev cv fe fc ft → MdF rz rb qb ab n tv nt f' → Q (.exit 2) f' h')
    (hN : ∀ f' h' cs' cv' fc', MdAt xs rz rb qb ab w kk h' es cs' tv ths ev cv' fe fc' ft → MdF rz rb qb ab n tv nt f' → f'.get 12 = eI (i + 1 : Nat) → cs'.length = i + 1 → i < 2 → Q .normal f' h') :
    Run C0 [.code mCo] .normal (mask [2, 3, 4, 5, 6, 7, 8, 12] f) h Q := by
  have G' := G
  obtain ⟨g2, g3, g4, g5, g6, g7, g8⟩ := G'
  obtain ⟨r, R⟩ := M.row
  simp only [mCo]
  simp [g3]
  refine PutA_of (next_ok R hx (by omega)) ?_
  rintro _ h1 ⟨n1, r1, rfl, z1, z2, R1, F1⟩
  have M1 := M.next R1 F1
  by_cases hin : (i : Int) < n1
  · simp [hin, g12, g8]
    refine Gd_join2 (NsJ xs rz rb qb ab n w kk es cs tv ths ev cv fe fc ft nt i) ?_ ?_
    · have skip : ∀ f' h', MdAt xs rz rb qb ab w kk h' es cs tv ths ev cv fe fc ft → MdF rz rb qb ab n tv nt f' → f'.get 12 = eI i → f'.get 13 = tv → NsJ xs rz rb qb ab n w kk es cs tv ths ev cv fe fc ft nt i f' h' := fun f' h' M' G' k12 k13 => ⟨M', G', k12, ths, ft, ⟨by rw [k13]; exact M'.th, M'.thv, by omega⟩, M'.ot⟩
      by_cases hnn : 0 ≤ nt
      · obtain ⟨k, rfl⟩ : ∃ k : Nat, nt = k := ⟨nt.toNat, by omega⟩
        have hk : k < es.length := by omega
        simp [g3]
        refine PutA_of (next_ok R1 hx (by omega)) ?_
        rintro _ h2 ⟨n2, r2, rfl, z3, z4, R2, F2⟩
        have M2 := M1.next R2 F2
        by_cases h2z : n2 = 0
        · simp [h2z]
          refine nms_ok (y := eI i) (n := n) M2 ⟨by simp [g2], by simp [g3], by simp [g4], by simp [g5], by simp [g6], by simp [g7], by simp [g8]⟩ (by simp) hk (by omega) fun f' h' B g nms G' k12 k13 N' F' hB => ?_
          have M' := M2.fwd F'
          have oB : Own h' 1 false (.arr B g 1 0 (k + 1) false) (strs nms) [B] := by
            have hs : (strs nms).length = k + 1 := by simp [strs, N'.len]
            have := Own.arr (h := h') (id := B) (g := g) (sz := 1) (ag := false) (off := 0) (len := k + 1) (frz := 0) (f := false) (E := strs nms) N'.arr (by omega) (by omega) (by rw [F'.lim]; have := M2.lim.2; omega)
            rw [List.drop_zero, List.take_of_length_le (by omega)] at this
            exact this
          simp
          exact ⟨M', G', k12, nms, [B], ⟨by rw [k13]; exact oB, N'.ok, by have := N'.len; omega⟩, fun y hy => by simp at hy; have := M2.lt; omega⟩
        · simp [h2z]
          exact skip _ _ M2 ⟨by simp [g2], by simp [g3], by simp [g4], by simp [g5], by simp [g6], by simp [g7], by simp [g8]⟩ (by simp) (by simp [g7])
      · simp [hnn]
        exact skip _ _ M1 ⟨by simp [g2], by simp [g3], by simp [g4], by simp [g5], by simp [g6], by simp [g7], by simp [g8]⟩ (by simp) (by simp [g7])
    rintro f5 h5 ⟨M5, G5, k12, nms, fn, N5, hfn⟩
    have G5' := G5
    obtain ⟨k2, k3, k4, k5, k6, k7, k8⟩ := G5'
    obtain ⟨r5, R5⟩ := M5.row
    have nfr : ∀ y ∈ fn, y ∉ [rb] := fun y hy z => by simp at z; have := hfn y hy; have := M5.ord; omega
    simp [k4, k3, M5.q, nl M5.lt.2.1, (own_cells M5.co).2]
    refine PutC_of (next_ok R5 hx (by omega)) ?_
    rintro _ h6 ⟨n6, r6, rfl, z3, z4, R6, F6⟩
    have M6 := M5.next R6 F6
    have N6 := N5.fwd F6 nfr
    have w2 : IntKind.i64.wrap (1 + n6) = 1 + n6 := wrap64 (by omega) (by omega)
    have ceq := own_eqb M5.co
    have hrb : rb ∉ fn := fun z => by have := hfn _ z; have := M5.ord; omega
    simp [k4, M6.q, nl M6.lt.2.1, (own_cells M6.co).2, ceq, w2]
    refine PutC_of (codes_ok (k := 2) R6 hx N6 hrb M6.lim.2 (by omega)) ?_
    rintro v7 h7 ⟨l7, r7, hv7, ok7, R7, F7⟩
    have M7 := M6.next R7 F7
    have N7 := N6.fwd F7 nfr
    simp [k4, M7.q, nl M7.lt.2.1, (own_cells M7.co).2, ceq]
    refine PutC_of (codes_ok (k := 1) R7 hx N7 hrb M7.lim.2 (by omega)) ?_
    rintro v8 h8 ⟨l8, r8, hv8, ok8, R8, F8⟩
    have M8 := M7.next R8 F8
    have c7 : v7.cells = [v7] ∧ EV.one v7 = true := by rcases hv7 with rfl | rfl <;> exact ⟨rfl, rfl⟩
    have c8 : v8.cells = [v8] ∧ EV.one v8 = true := by rcases hv8 with rfl | rfl <;> exact ⟨rfl, rfl⟩
    simp [k4, M8.q, nl M8.lt.2.1, (own_cells M8.co).2, ceq, c7, c8, ones]
    have F9 : Fwd [] h8 (h8.new (.cells ⟨0, 3, true, 0, [[eI (1 + n6), v7, v8]]⟩)) := (Fwd.refl _ _).new _
    have M9 := M8.fwd F9
    have w1 : IntKind.i64.wrap ((i : Int) + 1) = (i : Int) + 1 := wrap64 (by omega) (by omega)
    refine PutA_of (Own.add M9.co (x := .arr h8.objs.length 0 3 0 1 true) (ys := [[eI (1 + n6), v7, v8]]) (by simp [elsOf]) (by simp) (by simp; omega) M9.lim.2) ?_
    rintro va ha ⟨fca, Oa, La, Fa, Ga⟩
    have Ma := M9.addC (c := (⟨1 + n6, l7, l8⟩, v7, v8)) (by simpa [Cc.cells] using Oa) La ⟨hv7, hv8, ⟨ok7, ok8⟩⟩ Fa Ga
    have qa := Fa.arr M9.q fun z => by have := M9.oc _ z; have := M9.ord; omega
    have la : ha.lim ≤ qb := by have e := Fa.lim; have e2 : (h8.new (.cells ⟨0, 3, true, 0, [[eI (1 + n6), v7, v8]]⟩)).lim = h8.lim := rfl; have := M8.lim; have := M8.ord; exact Nat.le_trans (Nat.le_of_eq (e.trans e2)) (by omega)
    obtain ⟨o1, o2⟩ := own_cells Oa
    simp [k4, qa, nl (arr_lt qa), la, ones, k12, w1, o1, o2]
    exact hN _ _ _ _ _ Ma ⟨by simp [k2], by simp [k3], by simp [k4], by simp [k5], by simp [k6], by simp [k7], by simp [k8]⟩ (by simp) (by simp [hcs]) (by omega)
  · simp [hin, g12]
    exact hQ _ _ M1 ⟨by simp [g2], by simp [g3], by simp [g4], by simp [g5], by simp [g6], by simp [g7], by simp [g8]⟩
end Dk.C
