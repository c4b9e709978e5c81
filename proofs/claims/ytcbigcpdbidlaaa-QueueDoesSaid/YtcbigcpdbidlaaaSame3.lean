/- Rows of matches: are they the same? -/
import Derived.Test.YtcbigcpdbidlaaaComp
set_option linter.unusedVariables false
set_option linter.unusedSimpArgs false
set_option linter.unusedSectionVars false
namespace Dk.Q
open Go Dk

/-- A slice of matches, as it is read. -/
structure Reads3 (h : Hp) (v : EV) (a : List (List (List Int))) : Prop where
  els : ∃ es : List EV, elsOf 1 v h = some (es.map fun e => [e]) ∧ es.length = a.length ∧ ∀ (i : Nat) (e : EV) (x : List (List Int)), es[i]? = some e → a[i]? = some x → Reads2 h e x
  short : a.length < 1000000
theorem Reads3.objs {h h0 : Hp} {v : EV} {a : List (List (List Int))} (H : Reads3 h v a) (e0 : h0.objs = h.objs) : Reads3 h0 v a := by
  obtain ⟨⟨es, h1, h2, h3⟩, h4⟩ := H
  exact ⟨⟨es, (els_objs e0 1 v).trans h1, h2, fun i e x he hx => (h3 i e x he hx).objs e0⟩, h4⟩

def same3 : List (List (List Int)) → List (List (List Int)) → Bool
  | x :: a, y :: b => decide (compC x y = 0) && same3 a b
  | [], [] => true
  | _, _ => false
theorem same3_len : ∀ {a b : List (List (List Int))}, a.length ≠ b.length → same3 a b = false
  | [], [], h => by simp at h
  | [], _ :: _, _ => rfl
  | _ :: _, [], _ => rfl
  | x :: a, y :: b, h => by
    simp only [same3, same3_len (a := a) (b := b) (by simpa using h), Bool.and_false]

structure PLoop3 (u v : EV) (a b : List (List (List Int))) (h0 : Hp) (i : Nat) (f : Fr) (h' : Hp) : Prop where
  g0 : f.get 0 = u
  g1 : f.get 1 = v
  g5 : f.get 5 = eI i
  hh : h' = h0
  ok : same3 a b = same3 (a.drop i) (b.drop i)

theorem same_ok {u v : EV} {h : Hp} {a b : List (List (List Int))} (hu : Reads3 h u a) (hv : Reads3 h v b) : C0 n_Same [u, v] h = some (eB (same3 a b), h) := by
  refine call_loc noExt_mono (f := n_Same) rfl rfl rfl fun h0 e0 el => ?_
  obtain ⟨⟨es, hu1, hu2, hu3⟩, ha⟩ := hu.objs e0
  obtain ⟨⟨fs, hv1, hv2, hv3⟩, hb⟩ := hv.objs e0
  have lu : lenOf 0 u h0 = some a.length := by simpa [hu2] using els_len hu1
  have lv : lenOf 0 v h0 = some b.length := by simpa [hv2] using els_len hv1
  by_cases hab : a.length = b.length
  · simp [lu, lv, hab]
    refine Run_loop (fun q f h' => ∃ i, i ≤ a.length ∧ q = a.length - i ∧ PLoop3 u v a b h0 i f h') (n := a.length) ?_ ?_
    · exact ⟨0, Nat.zero_le _, rfl, by simp, by simp, by simp, rfl, by simp⟩
    rintro q f h2 ⟨i, hi, rfl, ⟨g0, g1, g5, rfl, ok⟩⟩
    by_cases h1 : i < a.length
    · obtain ⟨x, hx⟩ : ∃ x, a[i]? = some x := ⟨_, List.getElem?_eq_getElem h1⟩
      obtain ⟨y, hy⟩ : ∃ y, b[i]? = some y := ⟨_, List.getElem?_eq_getElem (by omega)⟩
      obtain ⟨e, he⟩ : ∃ e, es[i]? = some e := ⟨_, List.getElem?_eq_getElem (by omega)⟩
      obtain ⟨e', he'⟩ : ∃ e, fs[i]? = some e := ⟨_, List.getElem?_eq_getElem (by omega)⟩
      obtain ⟨q, q1, q2⟩ := els_get1 hu1 (i := i) (e := e) (by simp [he]) .i64
      obtain ⟨p, p1, p2⟩ := els_get1 hv1 (i := i) (e := e') (by simp [he']) .i64
      have wi : IntKind.wrap .i64 ((i : Int) + 1) = (i : Int) + 1 := wrap64 (by omega) (by omega)
      have da : a.drop i = x :: a.drop (i + 1) := by rw [List.drop_eq_getElem_cons h1, (List.getElem?_eq_some_iff.1 hx).2]
      have db : b.drop i = y :: b.drop (i + 1) := by rw [List.drop_eq_getElem_cons (by omega), (List.getElem?_eq_some_iff.1 hy).2]
      rw [da, db, same3] at ok
      simp [g0, g1, g5, lu, h1, q1, q2, p1, p2]
      refine PutA_eq (comp_ok (hu3 i e x he hx) (hv3 i e' y he' hy)) ?_
      by_cases c1 : compC x y = 0
      · simp only [c1, decide_true, Bool.true_and] at ok
        simp [c1, wi]
        exact ⟨a.length - (i + 1), by omega, i + 1, by omega, rfl, by simp, by simp, by simp, rfl, ok⟩
      · simp only [c1, decide_false, Bool.false_and] at ok
        simp [c1, Ends, ok]
    · have e : a.drop i = [] := List.drop_of_length_le (by omega)
      have e2 : b.drop i = [] := List.drop_of_length_le (by omega)
      rw [e, e2, same3] at ok
      simp [g0, g1, g5, lu, h1, Ends, ok]
  · have hne : ¬ ((a.length : Int) = (b.length : Int)) := by omega
    simp [lu, lv, Ends, same3_len hab, hne]
end Dk.Q
