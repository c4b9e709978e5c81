/- Matches, compared. -/
import Derived.Test.YtcbigcpdbidlaaaRow
set_option linter.unusedVariables false
set_option linter.unusedSimpArgs false
set_option linter.unusedSectionVars false
namespace Dk.Q
open Go Dk

def compC : List (List Int) → List (List Int) → Int
  | x :: a, y :: b => if rowC x y = 0 then compC a b else rowC x y
  | [], [] => 0
  | [], _ :: _ => -1
  | _ :: _, [] => 1

/-- A slice of slices of numbers, as it is read. -/
structure Reads2 (h : Hp) (v : EV) (a : List (List Int)) : Prop where
  els : ∃ es : List EV, elsOf 1 v h = some (es.map fun e => [e]) ∧ es.length = a.length ∧ ∀ (i : Nat) (e : EV) (x : List Int), es[i]? = some e → a[i]? = some x → elsOf 1 e h = some (ints x)
  short : a.length < 1000000 ∧ ∀ x ∈ a, x.length < 1000000
theorem Reads2.objs {h h0 : Hp} {v : EV} {a : List (List Int)} (H : Reads2 h v a) (e0 : h0.objs = h.objs) : Reads2 h0 v a := by
  obtain ⟨⟨es, h1, h2, h3⟩, h4⟩ := H
  exact ⟨⟨es, (els_objs e0 1 v).trans h1, h2, fun i e x he hx => (els_objs e0 1 e).trans (h3 i e x he hx)⟩, h4⟩

structure PLoop2 (u v : EV) (a b : List (List Int)) (h0 : Hp) (i : Nat) (f : Fr) (h' : Hp) : Prop where
  g0 : f.get 0 = u
  g1 : f.get 1 = v
  g5 : f.get 5 = eI i
  hh : h' = h0
  ok : compC a b = compC (a.drop i) (b.drop i)

theorem comp_ok {u v : EV} {h : Hp} {a b : List (List Int)} (hu : Reads2 h u a) (hv : Reads2 h v b) : C0 n_Compare6 [u, v] h = some (eI (compC a b), h) := by
  refine call_loc noExt_mono (f := n_Compare6) rfl rfl rfl fun h0 e0 el => ?_
  obtain ⟨⟨es, hu1, hu2, hu3⟩, ha, ha2⟩ := hu.objs e0
  obtain ⟨⟨fs, hv1, hv2, hv3⟩, hb, hb2⟩ := hv.objs e0
  have lu : lenOf 0 u h0 = some a.length := by simpa [hu2] using els_len hu1
  have lv : lenOf 0 v h0 = some b.length := by simpa [hv2] using els_len hv1
  simp
  refine Run_loop (fun q f h' => ∃ i, i ≤ a.length ∧ i ≤ b.length ∧ q = a.length - i ∧ PLoop2 u v a b h0 i f h') (n := a.length) ?_ ?_
  · exact ⟨0, Nat.zero_le _, Nat.zero_le _, rfl, by simp, by simp, by simp, rfl, by simp⟩
  rintro q f h2 ⟨i, hi, hi2, rfl, ⟨g0, g1, g5, rfl, ok⟩⟩
  by_cases h1 : i < a.length
  · by_cases h3 : i < b.length
    · obtain ⟨x, hx⟩ : ∃ x, a[i]? = some x := ⟨_, List.getElem?_eq_getElem h1⟩
      obtain ⟨y, hy⟩ : ∃ y, b[i]? = some y := ⟨_, List.getElem?_eq_getElem h3⟩
      obtain ⟨e, he⟩ : ∃ e, es[i]? = some e := ⟨_, List.getElem?_eq_getElem (by omega)⟩
      obtain ⟨e', he'⟩ : ∃ e, fs[i]? = some e := ⟨_, List.getElem?_eq_getElem (by omega)⟩
      obtain ⟨q, q1, q2⟩ := els_get1 hu1 (i := i) (e := e) (by simp [he]) .i64
      obtain ⟨p, p1, p2⟩ := els_get1 hv1 (i := i) (e := e') (by simp [he']) .i64
      have wi : IntKind.wrap .i64 ((i : Int) + 1) = (i : Int) + 1 := wrap64 (by omega) (by omega)
      have da : a.drop i = x :: a.drop (i + 1) := by rw [List.drop_eq_getElem_cons h1, (List.getElem?_eq_some_iff.1 hx).2]
      have db : b.drop i = y :: b.drop (i + 1) := by rw [List.drop_eq_getElem_cons h3, (List.getElem?_eq_some_iff.1 hy).2]
      rw [da, db, compC] at ok
      simp [g0, g1, g5, lu, lv, h1, h3, q1, q2, p1, p2]
      refine PutA_eq (row_ok (hu3 i e x he hx) (hv3 i e' y he' hy) (ha2 x (List.mem_of_getElem? hx)) (hb2 y (List.mem_of_getElem? hy))) ?_
      by_cases c1 : rowC x y = 0
      · rw [if_pos c1] at ok
        simp [c1, wi]
        exact ⟨a.length - (i + 1), by omega, i + 1, by omega, by omega, rfl, by simp, by simp, by simp, rfl, ok⟩
      · rw [if_neg c1] at ok
        simp [c1, Ends, ok]
    · have e : b.drop i = [] := List.drop_of_length_le (by omega)
      obtain ⟨x, r, da⟩ : ∃ x r, a.drop i = x :: r := ⟨_, _, List.drop_eq_getElem_cons h1⟩
      rw [e, da, compC] at ok
      have n1 : ¬ ((a.length : Int) < (b.length : Int)) := by omega
      have n2 : (b.length : Int) < (a.length : Int) := by omega
      simp [g0, g1, g5, lu, lv, h1, h3, Ends, ok, n1, n2]
  · have e : a.drop i = [] := List.drop_of_length_le (by omega)
    rw [e] at ok
    by_cases h3 : i < b.length
    · obtain ⟨x, r, db⟩ : ∃ x r, b.drop i = x :: r := ⟨_, _, List.drop_eq_getElem_cons h3⟩
      rw [db, compC] at ok
      have n1 : (a.length : Int) < (b.length : Int) := by omega
      simp [g0, g1, g5, lu, lv, h1, h3, Ends, ok, n1]
    · have e2 : b.drop i = [] := List.drop_of_length_le (by omega)
      rw [e2, compC] at ok
      have n1 : ¬ ((a.length : Int) < (b.length : Int)) := by omega
      have n2 : ¬ ((b.length : Int) < (a.length : Int)) := by omega
      simp [g0, g1, g5, lu, lv, h1, h3, Ends, ok, n1, n2]
end Dk.Q
