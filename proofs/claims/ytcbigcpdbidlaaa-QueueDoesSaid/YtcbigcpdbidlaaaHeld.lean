/- How many refs all that waits has. -/
import Derived.Test.YtcbigcpdbidlaaaLaw4
import Derived.Test.YtcbigcpdbidlaaaShows2
set_option linter.unusedVariables false
set_option linter.unusedSimpArgs false
set_option linter.unusedSectionVars false
namespace Dk.Q
open Go Dk

def Fnd.pd (f : Fnd) : PD := .agg [.list f.sets, .list (f.refs.map rPD)]
theorem row_all2 {P : Nat → Prop} {h : Hp} {n : Nat} : ∀ l : List Fnd, All2 (ElShows (Shows P h n) true) (l.map Fnd.cells) (l.map Fnd.pd)
  | [] => trivial
  | x :: l => ⟨⟨_, rfl, .plain n, .plain n, trivial⟩, row_all2 l⟩
theorem deep_row : ∀ l : List Fnd, deepPD (l.map Fnd.pd) = some ((allRefs l).length : Int)
  | [] => rfl
  | f :: l => by
    simp only [List.map_cons, Fnd.pd, deepPD, deep_row l, Option.map_some, allRefs, List.flatMap_cons, List.length_append, List.length_map]
    simp
theorem deep_line {h : Hp} {p : Nat} {l : Line} {fp : List Nat} (H : LineAt h p l fp) (hb : l.row.length < 1000000) : deepOf (.ptr p 0 0 0) h = some ((allRefs l.row).length : Int) := by
  obtain ⟨⟨v, ha, O⟩, _⟩ := H
  have S : Shows (fun _ => True) ⟨h.objs, h.lim⟩ 8 v (.list (l.row.map Fnd.pd)) := own_shows O (fun _ _ => trivial) (row_all2 _)
  obtain ⟨os', e, _⟩ := shareC_shows S
  have hc : (l.row.map Fnd.pd).length < 4611686018427387904 := by simp; omega
  have ov := O.one
  unfold deepOf
  have e1 : fldAt 0 (.ptr p 0 0 0) = some (.ptr p 0 0 0) := rfl
  have e2 : loadAt false 1 (.ptr p 0 0 0) h = some v := by simp [loadAt, ha, mk, ov.2]
  simp only [e1, e2, e, if_pos hc, deep_row]
theorem sum_lines {h : Hp} : ∀ {ls : List (Int × Line)} {ps : List (Nat × List Nat)}, ps.length = ls.length → (∀ (i : Nat) (k : Int) (l : Line) (p : Nat) (fp : List Nat), ls[i]? = some (k, l) → ps[i]? = some (p, fp) → LineAt h p l fp) → (∀ y ∈ ls, y.2.row.length < 1000000) → sumEs (-1) h (ents ls ps) = some ((heldRefs ls).length : Int)
  | [], ps, _, _, _ => rfl
  | (k, l) :: ls, [], h1, _, _ => by simp at h1
  | (k, l) :: ls, (p, fp) :: ps, h1, h2, h3 => by
    have ih := sum_lines (ls := ls) (ps := ps) (by simpa using h1) (fun i => h2 (i + 1)) fun y hy => h3 y (by simp [hy])
    have hd := deep_line (h2 0 k l p fp rfl rfl) (h3 (k, l) (by simp))
    have hc : cntOf (-1) (.ptr p 0 0 0) h = some ((allRefs l.row).length : Int) := by simpa [cntOf] using hd
    simp only [ents, List.zipWith_cons_cons, sumEs, hc]
    simp only [ents] at ih
    rw [ih, held_cons]
    simp
theorem held_len {cf : Conf} {ls : List (Int × Line)} (F : Fit cf ls) (hq : ls.length ≤ 4) (ho : cf.o ≤ 4096) : (heldRefs ls).length ≤ 4 * 8192 := by
  have key : ∀ {ls : List (Int × Line)}, Fit cf ls → (heldRefs ls).length ≤ ls.length * 8192 := by
    intro ls
    induction ls with
    | nil => intro _; simp [heldRefs]
    | cons y ls ih =>
      intro F
      obtain ⟨k, l⟩ := y
      have h1 := F (k, l) (by simp)
      have h2 := allRefs_len h1.2
      have h3 := ih fun z hz => F z (by simp [hz])
      have h4 := h1.1
      simp only at h4 h2
      rw [held_cons, List.length_append, List.length_cons]
      omega
  exact Nat.le_trans (key F) (Nat.mul_le_mul_right _ hq)

theorem held_ok {h : Hp} {id idm : Nat} {ps : List (Nat × List Nat)} {cf : Conf} {ls : List (Int × Line)} (H : DeskAt h id idm ps ⟨cf, ls⟩) (F : Fit cf ls) (hq : ls.length ≤ 4) (ho : cf.o ≤ 4096) : WA (C0 n_qHeld [.ptr id 0 0 0] h) fun v h' => v = eI (heldRefs ls).length ∧ h' = h := by
  refine call_W noExt_mono (f := n_qHeld) rfl rfl ?_
  have hs := sum_lines H.len H.lines fun y hy => by have := (F y hy).1; omega
  have top := H.top
  have mp := H.map
  have hl := held_len F hq ho
  have hm : mapNth (.map idm) (.p (.int .i64 (-1))) h = some (eI (heldRefs ls).length) := by
    simp only [mapNth, mp, hs]
    rw [wrap64 (by omega) (by omega)]
  simp only [Conf.cells, List.cons_append, List.nil_append] at top
  simp [Ends, top, hm]
end Dk.Q
