/- Rows of numbers, compared. -/
import Derived.Test.YtcbigcpdbidlaaaSame
set_option linter.unusedVariables false
set_option linter.unusedSimpArgs false
set_option linter.unusedSectionVars false
namespace Dk.Q
open Go Dk

def rowC : List Int → List Int → Int
  | x :: a, y :: b => if x < y then -1 else if y < x then 1 else rowC a b
  | [], [] => 0
  | [], _ :: _ => -1
  | _ :: _, [] => 1
def ints (l : List Int) : List (List EV) := l.map fun x => [eI x]

structure RLoop (u v : EV) (a b : List Int) (h0 : Hp) (i : Nat) (f : Fr) (h' : Hp) : Prop where
  g0 : f.get 0 = u
  g1 : f.get 1 = v
  g5 : f.get 5 = eI i
  hh : h' = h0
  ok : rowC a b = rowC (a.drop i) (b.drop i)

theorem row_ok {u v : EV} {h : Hp} {a b : List Int} (hu : elsOf 1 u h = some (ints a)) (hv : elsOf 1 v h = some (ints b)) (ha : a.length < 1000000) (hb : b.length < 1000000) : C0 n_row6 [u, v] h = some (eI (rowC a b), h) := by
  refine call_loc noExt_mono (f := n_row6) rfl rfl rfl fun h0 e0 el => ?_
  have hu0 : elsOf 1 u h0 = some (ints a) := (els_objs e0 1 u).trans hu
  have hv0 : elsOf 1 v h0 = some (ints b) := (els_objs e0 1 v).trans hv
  have lu : lenOf 0 u h0 = some a.length := by simpa [ints] using els_len hu0
  have lv : lenOf 0 v h0 = some b.length := by simpa [ints] using els_len hv0
  simp
  refine Run_loop (fun q f h' => ∃ i, i ≤ a.length ∧ i ≤ b.length ∧ q = a.length - i ∧ RLoop u v a b h0 i f h') (n := a.length) ?_ ?_
  · exact ⟨0, Nat.zero_le _, Nat.zero_le _, rfl, by simp, by simp, by simp, rfl, by simp⟩
  rintro q f h2 ⟨i, hi, hi2, rfl, ⟨g0, g1, g5, rfl, ok⟩⟩
  by_cases h1 : i < a.length
  · by_cases h3 : i < b.length
    · obtain ⟨x, hx⟩ : ∃ x, a[i]? = some x := ⟨_, List.getElem?_eq_getElem h1⟩
      obtain ⟨y, hy⟩ : ∃ y, b[i]? = some y := ⟨_, List.getElem?_eq_getElem h3⟩
      obtain ⟨q, q1, q2⟩ := els_get1 hu0 (i := i) (e := eI x) (by simp [ints, hx]) .i64
      obtain ⟨p, p1, p2⟩ := els_get1 hv0 (i := i) (e := eI y) (by simp [ints, hy]) .i64
      have wi : IntKind.wrap .i64 ((i : Int) + 1) = (i : Int) + 1 := wrap64 (by omega) (by omega)
      have da : a.drop i = x :: a.drop (i + 1) := by rw [List.drop_eq_getElem_cons h1, (List.getElem?_eq_some_iff.1 hx).2]
      have db : b.drop i = y :: b.drop (i + 1) := by rw [List.drop_eq_getElem_cons h3, (List.getElem?_eq_some_iff.1 hy).2]
      rw [da, db, rowC] at ok
      by_cases c1 : x < y
      · rw [if_pos c1] at ok
        simp [g0, g1, g5, lu, lv, h1, h3, q1, q2, p1, p2, c1, Ends, ok]
      · rw [if_neg c1] at ok
        by_cases c2 : y < x
        · rw [if_pos c2] at ok
          simp [g0, g1, g5, lu, lv, h1, h3, q1, q2, p1, p2, c1, c2, Ends, ok]
        · rw [if_neg c2] at ok
          simp [g0, g1, g5, lu, lv, h1, h3, q1, q2, p1, p2, c1, c2, wi]
          exact ⟨a.length - (i + 1), by omega, i + 1, by omega, by omega, rfl, by simp, by simp, by simp, rfl, ok⟩
    · have e : b.drop i = [] := List.drop_of_length_le (by omega)
      have da : ∃ x r, a.drop i = x :: r := ⟨_, _, List.drop_eq_getElem_cons h1⟩
      obtain ⟨x, r, da⟩ := da
      rw [e, da, rowC] at ok
      have n1 : ¬ ((a.length : Int) < (b.length : Int)) := by omega
      have n2 : (b.length : Int) < (a.length : Int) := by omega
      simp [g0, g1, g5, lu, lv, h1, h3, Ends, ok, n1, n2]
  · have e : a.drop i = [] := List.drop_of_length_le (by omega)
    rw [e] at ok
    by_cases h3 : i < b.length
    · obtain ⟨x, r, db⟩ : ∃ x r, b.drop i = x :: r := ⟨_, _, List.drop_eq_getElem_cons h3⟩
      rw [db, rowC] at ok
      have n1 : (a.length : Int) < (b.length : Int) := by omega
      simp [g0, g1, g5, lu, lv, h1, h3, Ends, ok, n1]
    · have e2 : b.drop i = [] := List.drop_of_length_le (by omega)
      rw [e2, rowC] at ok
      have n1 : ¬ ((a.length : Int) < (b.length : Int)) := by omega
      have n2 : ¬ ((b.length : Int) < (a.length : Int)) := by omega
      simp [g0, g1, g5, lu, lv, h1, h3, Ends, ok, n1, n2]
end Dk.Q
