/- Answers: are they the same? -/
import Derived.Test.YtcbigcpdbidlaaaSame3
import Derived.Test.YtcbigcpdbidlaaaLaw3
set_option linter.unusedVariables false
set_option linter.unusedSimpArgs false
set_option linter.unusedSectionVars false
namespace Dk.Q
open Go Dk

theorem rowC_self : ∀ x : List Int, rowC x x = 0
  | [] => rfl
  | x :: a => by simp [rowC, rowC_self a]
theorem compC_self : ∀ a : List (List Int), compC a a = 0
  | [] => rfl
  | x :: a => by simp [compC, rowC_self, compC_self a]
theorem same3_self : ∀ A : List (List (List Int)), same3 A A = true
  | [] => rfl
  | x :: A => by simp [same3, same3_self A, compC_self]
theorem Reads2.fwd {h h' : Hp} {v : EV} {a : List (List Int)} (H : Reads2 h v a) (f : Fwd [] h h') : Reads2 h' v a := by
  obtain ⟨⟨es, h1, h2, h3⟩, h4⟩ := H
  exact ⟨⟨es, els_fwd h1 f, h2, fun i e x he hx => els_fwd (h3 i e x he hx) f⟩, h4⟩
theorem Reads3.fwd {h h' : Hp} {v : EV} {a : List (List (List Int))} (H : Reads3 h v a) (f : Fwd [] h h') : Reads3 h' v a := by
  obtain ⟨⟨es, h1, h2, h3⟩, h4⟩ := H
  exact ⟨⟨es, els_fwd h1 f, h2, fun i e x he hx => (h3 i e x he hx).fwd f⟩, h4⟩

/-- Matches, as they are read. -/
theorem sets_read : ∀ (ms : List Fnd), (∀ f ∈ ms, FndOK f) → ∃ A : List (List (List Int)), A.length = ms.length ∧ ∀ (i : Nat) (f : Fnd) (S : List (List Int)), ms[i]? = some f → A[i]? = some S → f.sets = S.map (fun l => .list (l.map iN)) ∧ S.length ≤ 2 ∧ ∀ l ∈ S, l.length ≤ 1
  | [], _ => ⟨[], rfl, fun i f S h => by simp at h⟩
  | f :: ms, h => by
    obtain ⟨A, h1, h2⟩ := sets_read ms fun y hy => h y (by simp [hy])
    obtain ⟨S, hS⟩ := (h f (by simp)).sets
    refine ⟨S :: A, by simp [h1], fun i g T hg hT => ?_⟩
    cases i with
    | zero => simp at hg hT; subst hg hT; exact hS
    | succ i => exact h2 i g T (by simpa using hg) (by simpa using hT)
theorem ints_els (l : List Int) (h : Hp) : elsOf 1 (.p (.list (l.map iN))) h = some (ints l) := by
  have e : sized 1 (l.map iN) = true := List.all_eq_true.2 fun x hx => by
    obtain ⟨r, _, rfl⟩ := List.mem_map.1 hx
    rfl
  simp only [elsOf, e, if_true, List.map_map, ints]
  rfl
theorem reads2_of {S : List (List Int)} (h1 : S.length ≤ 2) (h2 : ∀ l ∈ S, l.length ≤ 1) (h : Hp) : Reads2 h (.p (.list (S.map fun l => .list (l.map iN)))) S := by
  refine ⟨⟨S.map fun l => .p (.list (l.map iN)), ?_, by simp, fun i e x he hx => ?_⟩, by omega, fun x hx => by have := h2 x hx; omega⟩
  · have e : sized 1 (S.map fun l => PD.list (l.map iN)) = true := List.all_eq_true.2 fun x hx => by
      obtain ⟨r, _, rfl⟩ := List.mem_map.1 hx
      rfl
    simp only [elsOf, e, if_true, List.map_map]
    rfl
  · rw [List.getElem?_map, hx] at he
    cases he
    exact ints_els x h
theorem reads3_of {ms : List Fnd} {A : List (List (List Int))} (hA : A.length = ms.length) (hs : ∀ (i : Nat) (f : Fnd) (S : List (List Int)), ms[i]? = some f → A[i]? = some S → f.sets = S.map (fun l => .list (l.map iN)) ∧ S.length ≤ 2 ∧ ∀ l ∈ S, l.length ≤ 1) (hb : ms.length < 1000000) {h : Hp} {m : EV} {fm : List Nat} (O : Own h 1 false m (setCells ms) fm) : Reads3 h m A := by
  refine ⟨⟨ms.map fun f => .p (.list f.sets), ?_, by simp [hA], fun i e x he hx => ?_⟩, by omega⟩
  · rw [O.els]
    simp [setCells]
  · cases hf : ms[i]? with
    | none => rw [List.getElem?_map, hf] at he; cases he
    | some f =>
      rw [List.getElem?_map, hf] at he
      cases he
      obtain ⟨q1, q2, q3⟩ := hs i f x hf hx
      show Reads2 h (.p (.list f.sets)) x
      rw [q1]
      exact reads2_of q2 q3 h

theorem sameA_ok {h : Hp} {u v : EV} {e n e' n' : Int} {A B : List (List (List Int))} (hu : Reads3 h u A) (hv : Reads3 h v B) (o1 : EV.one u = true ∧ u.cells = [u]) (o2 : EV.one v = true ∧ v.cells = [v]) : C0 n_SameAnswer [.agg [eI e, eI n, u], .agg [eI e', eI n', v]] h = some (eB (same3 A B && (decide (e = e') && decide (n = n'))), h) := by
  refine call_loc noExt_mono (f := n_SameAnswer) rfl rfl rfl fun h0 e0 el => ?_
  have hl : h0.lim ≤ h0.objs.length := by omega
  have hu0 := hu.objs e0
  have hv0 := hv.objs e0
  obtain ⟨X, eX⟩ : ∃ X, X = (h0.new (.cells ⟨0, 3, true, 0, [[eI e, eI n, u]]⟩)).new (.cells ⟨0, 3, true, 0, [[eI e', eI n', v]]⟩) := ⟨_, rfl⟩
  have FX : Fwd [] h0 X := by rw [eX]; repeat first | exact Fwd.refl _ _ | refine Fwd.new ?_ _
  have x0 : X.arr h0.objs.length 0 = some ⟨0, 3, true, 0, [[eI e, eI n, u]]⟩ := by rw [eX]; simp
  have x1 : X.arr (h0.objs.length + 1) 0 = some ⟨0, 3, true, 0, [[eI e', eI n', v]]⟩ := by rw [eX]; simp
  simp [o1.1, o2.1, ones]
  rw [← eX]
  refine PutA_eq (same_ok (hu0.fwd FX) (hv0.fwd FX)) ?_
  cases hs : same3 A B with
  | false => simp [Ends, x0, x1]
  | true =>
    by_cases he : e = e'
    · simp [Ends, x0, x1, he]
    · simp [Ends, x0, x1, he]
end Dk.Q
