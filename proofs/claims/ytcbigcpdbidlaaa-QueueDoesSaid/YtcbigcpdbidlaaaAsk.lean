/- What a desk is asked: how many live, what waits, what is lost. -/
import Derived.Test.YtcbigcpdbidlaaaCmd6
set_option linter.unusedVariables false
set_option linter.unusedSimpArgs false
set_option linter.unusedSectionVars false
namespace Dk.Q
open Go Dk

def lookL (k : Int) : List (Int × Line) → Option Line
  | [] => none
  | (k', l) :: r => if k' = k then some l else lookL k r
theorem lookL_none {k : Int} : ∀ {ls : List (Int × Line)}, (∀ l ∈ ls, l.1 ≠ k) → lookL k ls = none
  | [], _ => rfl
  | (k', l) :: r, h => by
    simp only [lookL]
    rw [if_neg (h (k', l) (by simp)), lookL_none fun y hy => h y (by simp [hy])]
theorem lookL_some {k : Int} {l : Line} {b : List (Int × Line)} : ∀ {a : List (Int × Line)}, (∀ y ∈ a, y.1 ≠ k) → lookL k (a ++ (k, l) :: b) = some l
  | [], _ => by simp [lookL]
  | (k', l') :: r, h => by
    simp only [List.cons_append, lookL]
    rw [if_neg (h (k', l') (by simp)), lookL_some fun y hy => h y (by simp [hy])]
def waits (k : Int) (ls : List (Int × Line)) : Nat := match lookL k ls with | some l => l.row.length | none => 0
def isLost (k : Int) (ls : List (Int × Line)) : Bool := match lookL k ls with | some l => l.lost | none => false

theorem live_ok {h : Hp} {id idm : Nat} {ps : List (Nat × List Nat)} {cf : Conf} {ls : List (Int × Line)} (H : DeskAt h id idm ps ⟨cf, ls⟩) : C0 n_qLive [.ptr id 0 0 0] h = some (eI ls.length, h) := by
  refine call_loc noExt_mono (f := n_qLive) rfl rfl rfl fun h0 e0 el => ?_
  have top := (Hp.arr_objs e0 id 0).trans H.top
  have mp := (Hp.mapOf_objs e0 idm).trans H.map
  have el : (ents ls ps).length = ls.length := by simp [ents, H.len]
  simp only [Conf.cells, List.cons_append, List.nil_append] at top
  simp [Ends, top, mp, el]
theorem waiting_ok {h : Hp} {id idm : Nat} {ps : List (Nat × List Nat)} {cf : Conf} {ls : List (Int × Line)} (H : DeskAt h id idm ps ⟨cf, ls⟩) (k : Int) : C0 n_qWaiting [.ptr id 0 0 0, eI k] h = some (eI (waits k ls), h) := by
  refine call_loc noExt_mono (f := n_qWaiting) rfl rfl rfl fun h0 e0 el => ?_
  have top := (Hp.arr_objs e0 id 0).trans H.top
  have mp := (Hp.mapOf_objs e0 idm).trans H.map
  have hm := mapGet_ok (ck := .int) (k := iN k) (z := .nilp) mp (by simp [PD.alike]) (ents_alike _ _ _)
  simp only [Conf.cells, List.cons_append, List.nil_append] at top
  rcases split_line k ls with hno | ⟨a, l, b, rfl, hfr⟩
  · rw [ents_none hno] at hm
    simp [Ends, top, hm, waits, lookL_none hno]
  · obtain ⟨pa, p, fp, pb, rfl, hla⟩ := split_ps (ps := ps) (n := a.length) (by rw [H.len]; simp)
    rw [ents_some hla hfr] at hm
    obtain ⟨⟨v, ha, ho⟩, hlim⟩ : LineAt h p l fp := H.lines pa.length k l p fp (by simp [hla]) (by simp)
    have ha0 := (Hp.arr_objs e0 p 0).trans ha
    have elen : lenOf 0 v h0 = some l.row.length := by
      have e := els_len ho.els
      simp at e
      unfold lenOf at e ⊢
      split at e <;> simp_all
    simp [Ends, top, hm, ha0, elen, waits, lookL_some hfr]
theorem lostq_ok {h : Hp} {id idm : Nat} {ps : List (Nat × List Nat)} {cf : Conf} {ls : List (Int × Line)} (H : DeskAt h id idm ps ⟨cf, ls⟩) (k : Int) : C0 n_qLost [.ptr id 0 0 0, eI k] h = some (eB (isLost k ls), h) := by
  refine call_loc noExt_mono (f := n_qLost) rfl rfl rfl fun h0 e0 el => ?_
  have top := (Hp.arr_objs e0 id 0).trans H.top
  have mp := (Hp.mapOf_objs e0 idm).trans H.map
  have hm := mapGet_ok (ck := .int) (k := iN k) (z := .nilp) mp (by simp [PD.alike]) (ents_alike _ _ _)
  simp only [Conf.cells, List.cons_append, List.nil_append] at top
  rcases split_line k ls with hno | ⟨a, l, b, rfl, hfr⟩
  · rw [ents_none hno] at hm
    simp [Ends, top, hm, isLost, lookL_none hno]
  · obtain ⟨pa, p, fp, pb, rfl, hla⟩ := split_ps (ps := ps) (n := a.length) (by rw [H.len]; simp)
    rw [ents_some hla hfr] at hm
    obtain ⟨⟨v, ha, ho⟩, hlim⟩ : LineAt h p l fp := H.lines pa.length k l p fp (by simp [hla]) (by simp)
    have ha0 := (Hp.arr_objs e0 p 0).trans ha
    simp [Ends, top, hm, ha0, isLost, lookL_some hfr]

/-- The config by numbers. -/
def confOf (q0 q1 : Int) : Conf := ⟨0, 0, 0, 1 + restZ q0 4, 0, 1 + restZ q1 6, 0⟩
theorem config_ok (q0 q1 : Int) (h : Hp) : C0 n_config [.agg [eI q0, eI q1]] h = some (.agg (confOf q0 q1).cells, h) := by
  refine call_loc noExt_mono (f := n_config) rfl rfl rfl fun h0 e0 el => ?_
  obtain ⟨a1, a2⟩ := restZ_bound (x := q0) (n := 4) (by omega)
  obtain ⟨b1, b2⟩ := restZ_bound (x := q1) (n := 6) (by omega)
  have hl : h0.lim ≤ h0.objs.length := by omega
  have w1 : IntKind.i64.wrap (1 + restZ q0 4) = 1 + restZ q0 4 := wrap64 (by omega) (by omega)
  have w2 : IntKind.i64.wrap (1 + restZ q1 6) = 1 + restZ q1 6 := wrap64 (by omega) (by omega)
  simp [lk hl, nl]
  obtain ⟨X, eX⟩ : ∃ X, X = (h0.new (.cells ⟨0, 2, true, 0, [[eI q0, eI q1]]⟩)).new (.cells ⟨0, 7, true, 0, [[eI 0, eI 0, eI 0, eI 0, eI 0, eI 0, eI 0]]⟩) := ⟨_, rfl⟩
  rw [← eX]
  have x0 : X.arr h0.objs.length 0 = some ⟨0, 2, true, 0, [[eI q0, eI q1]]⟩ := by rw [eX]; simp
  have x1 : X.arr (h0.objs.length + 1) 0 = some ⟨0, 7, true, 0, [[eI 0, eI 0, eI 0, eI 0, eI 0, eI 0, eI 0]]⟩ := by rw [eX]; simp
  have lX : X.lim ≤ h0.objs.length + 1 := by rw [eX]; simp; omega
  have n1 := arr_lt x1
  have i0 : ixpAt 2 1 (.ptr h0.objs.length 0 0 0) (eI 0) = some (.ptr h0.objs.length 0 0 0) := rfl
  have i1 : ixpAt 2 1 (.ptr h0.objs.length 0 0 0) (eI 1) = some (.ptr h0.objs.length 0 0 1) := rfl
  rw [i0]
  simp [x0]
  rw [i1]
  simp [x0]
  refine PutC_of (K := fun w h' => w = eI (restZ q0 4) ∧ h' = X) ⟨_, _, rest_ok (by omega) (by omega) X, rfl, rfl⟩ ?_
  rintro _ _ ⟨rfl, rfl⟩
  simp [x0, w1]
  refine PutA_eq (rest_ok (by omega) (by omega) _) ?_
  simp [Ends, w2, ones, lk hl, x0, x1, lX]
  simp [Hp.arr_set, n1]
  simp [confOf, Conf.cells]
end Dk.Q
