/- Where a hit goes among those that are there. -/
import Derived.Test.YtcbigcpdbidlaaaCmd2
set_option linter.unusedVariables false
set_option linter.unusedSimpArgs false
set_option linter.unusedSectionVars false
namespace Dk.Q
open Go Dk

def cL : DC := (.seq (.seq (.ops [S 100 (.mv (.t 11)),
        S 101 (.bin .gtr .none (.t 100) (xI 0)),
        S 102 (.mv (.t 101)),
        ⟨(some 103), .mv (.t 7), (some (102, true)), []⟩,
        ⟨(some 104), .mv (.t 9), (some (102, true)), []⟩,
        ⟨(some 105), .ixa 4 (.t 103) (.t 104), (some (102, true)), []⟩,
        ⟨(some 106), .fld 0 (.t 105), (some (102, true)), []⟩,
        ⟨(some 107), .ld false 1 (.t 106), (some (102, true)), []⟩,
        ⟨(some 108), .mv (.t 11), (some (102, true)), []⟩,
        ⟨(some 109), .bin .sub .none (.t 108) (xI 1), (some (102, true)), []⟩,
        ⟨(some 110), .ixa 3 (.t 107) (.t 109), (some (102, true)), []⟩,
        ⟨(some 111), .fld 0 (.t 110), (some (102, true)), []⟩,
        ⟨(some 112), .ld false 1 (.t 111), (some (102, true)), []⟩,
        ⟨(some 113), .fld 0 (.t 10), (some (102, true)), []⟩,
        ⟨(some 114), .ld false 1 (.t 113), (some (102, true)), []⟩,
        ⟨(some 115), .bin .gtr .none (.t 112) (.t 114), (some (102, true)), []⟩,
        S 116 (.pick (.t 102) (.t 115) (xB false))])
      (.cond (.t 116)
       (.skip)
       (.exit 3)))
      (.block 4 (.ops [S 117 (.mv (.t 11)),
         S 118 (.bin .sub .none (.t 117) (xI 1)),
         S 11 (.mv (.t 118))])))
def cC1 : DC := .ops [S 94 (.mv (.t 7)),
      S 95 (.mv (.t 9)),
      S 96 (.ixa 4 (.t 94) (.t 95)),
      S 97 (.fld 0 (.t 96)),
      S 98 (.ld false 1 (.t 97)),
      S 99 (.len 0 (.t 98)),
      S 11 (.mv (.t 99))]
structure SeekAt (f0 : Fr) (h0 : Hp) (hits : List Hit) (x : Int) (q : Nat) (f : Fr) (h : Hp) (j : Nat) : Prop where
  e : ∀ t ∈ [1, 2, 4, 7, 8, 9, 10], f.get t = f0.get t
  g11 : f.get 11 = eI j
  h : h = h0
  le : j ≤ hits.length
  q : q = j
  ahead : ∀ y ∈ hits.drop j, x < y.id
theorem seek_ok {P : Nat → Prop} {f : Fr} {h : Hp} {Q : Ex → Fr → Hp → Prop} {ks : List Ct} {r k b : Nat} {rows : List (List EV)} {hv lv : EV} {hits : List Hit} {x : Int} {sv rv : EV}
    (g7 : f.get 7 = .arr r 0 4 0 3 false) (g9 : f.get 9 = eI k) (g10 : f.get 10 = .ptr b 0 0 0) (g11 : f.get 11 = eI hits.length)
    (ar : h.arr r 0 = some ⟨0, 4, true, 0, rows⟩) (hlen : rows.length = 3) (hk : rows[k]? = some [hv, lv, .full [], .full []]) (hv : HV P h hv hits) (hbig : hits.length < 1000)
    (ab : h.arr b 0 = some ⟨0, 3, true, 0, [[eI x, sv, rv]]⟩)
    (hQ : ∀ (f' : Fr) (j : Nat), (∀ t ∈ [1, 2, 4, 7, 8, 9, 10], f'.get t = f.get t) → f'.get 11 = eI j → j ≤ hits.length → (∀ y ∈ hits.drop j, x < y.id) → (∀ y, hits[j - 1]? = some y → j = 0 ∨ y.id ≤ x) → Run C0 ks .normal f' h Q) :
    Run C0 (.code (.loop [1, 2, 4, 7, 8, 9, 10, 11] cL) :: .block 3 :: ks) .normal f h Q := by
  have hk3 : k < 3 := by have := (List.getElem?_eq_some_iff.1 hk).1; omega
  have hkl : k < rows.length := by omega
  have hk2 := (List.getElem?_eq_some_iff.1 hk).2
  have lr := arr_lt ar
  have lb := arr_lt ab
  refine Run_loop (fun q f' h' => ∃ j, SeekAt f h hits x q f' h' j) (n := hits.length) ?_ ?_
  · exact ⟨hits.length, fun t _ => rfl, g11, rfl, Nat.le_refl _, rfl, by simp⟩
  rintro q f2 h2 ⟨j, I⟩
  obtain ⟨Ie, I11, rfl, Ile, Iq, Ia⟩ := I
  obtain rfl := Iq.symm
  have e1 := Ie 1 (by simp)
  have e2 := Ie 2 (by simp)
  have e4 := Ie 4 (by simp)
  have e7 := (Ie 7 (by simp)).trans g7
  have e8 := Ie 8 (by simp)
  have e9 := (Ie 9 (by simp)).trans g9
  have e10 := (Ie 10 (by simp)).trans g10
  simp only [cL]
  by_cases hj : j = 0
  · subst hj
    simp [I11, e7, e9, e10]
    refine hQ _ 0 (by simp [e1, e2, e4, e7, e8, e9, e10, g7, g9, g10]) (by simp [I11]) (by simp) (by simpa using Ia) (by simp)
  · have hj0 : 0 < j := by omega
    cases hv with
    | nil => simp at Ile; omega
    | @arr id g els _ aa pa la da =>
      have el := da.len
      obtain ⟨y, hy⟩ : ∃ y, hits[j - 1]? = some y := ⟨_, List.getElem?_eq_getElem (by omega)⟩
      obtain ⟨row, hrow, sv', rv', rfl, -⟩ := da.get hy
      have hrow2 := (List.getElem?_eq_some_iff.1 hrow).2
      have hjl : j - 1 < els.length := by omega
      have w1 : IntKind.wrap .i64 ((j : Int) - 1) = ((j - 1 : Nat) : Int) := by rw [wrap64 (by omega) (by omega)]; omega
      simp [I11, e7, e9, e10, hj0, ar, ab, nl lr, nl lb, hk, hk3, hk2, hlen, aa, hrow, hrow2, hjl, w1]
      by_cases hc : x < y.id
      · simp [hc, I11, w1]
        refine ⟨j - 1, by omega, j - 1, by simp [e1, e2, e4, e7, e8, e9, e10, g7, g9, g10], by simp, rfl, by omega, rfl, ?_⟩
        intro z hz
        have hjl' : j - 1 < hits.length := by omega
        rw [List.drop_eq_getElem_cons hjl', (List.getElem?_eq_some_iff.1 hy).2, show j - 1 + 1 = j by omega] at hz
        rcases List.mem_cons.1 hz with rfl | hz
        · exact hc
        · exact Ia z hz
      · simp [hc, I11]
        refine hQ _ j (by simp [e1, e2, e4, e7, e8, e9, e10, g7, g9, g10]) (by simp [I11]) Ile Ia ?_
        intro z hz
        rw [hy] at hz
        cases hz
        exact .inr (by omega)
end Dk.Q
