/- Of no runs nothing comes; of a table that is not right, or too many, there are none. -/
import Derived.Test.YtlpdigdeplaffaaGreatAwake
set_option linter.unusedVariables false
set_option linter.unusedSimpArgs false
set_option linter.unusedSectionVars false
namespace Dk.U
open Go Dk

theorem lk {l n : Nat} (h : l ≤ n) : (∀ k, (l ≤ n + k) = True) ∧ (l ≤ n) = True := ⟨fun k => eq_true (by omega), eq_true h⟩
theorem feed_nil (s : Int) (r1 r2 : Int) {e1 e2 e3 e4 e5 e6 : EV} (o1 : e1.one = true) (o2 : e2.one = true) (o3 : e3.one = true) (o4 : e4.one = true) (o5 : e5.one = true) (o6 : e6.one = true) {fn : EV} (h : Hp) (hl : h.lim ≤ h.objs.length) :
    WA (C0 n_runs_Runs_Feed [.nilp, eI s, .agg [eI r1, eI r2], .agg [e1, e2, e3, e4, e5, e6], fn] h) fun v h' => v = .agg [.full [], .full [], .full [], eB false] ∧ Fwd [] h h' := by
  refine call_W noExt_mono (f := n_runs_Runs_Feed) rfl rfl ?_
  simp [ones, o1, o2, o3, o4, o5, o6, Ends, lk hl]
  repeat first | exact Fwd.refl _ _ | refine Fwd.new ?_ _ | refine Fwd.set ?_ _ (.inr (by omega))
theorem end_nil (h : Hp) : WA (C0 n_runs_Runs_End [.nilp] h) fun v h' => (∃ id g sz o f, v = .arr id g sz o 0 f) ∧ Fwd [] h h' := by
  refine call_W noExt_mono (f := n_runs_Runs_End) rfl rfl ?_
  simp [ones, Ends]
  repeat first | exact Fwd.refl _ _ | refine Fwd.new ?_ _
theorem count_nil (h : Hp) : WA (C0 n_runs_Runs_Count [.nilp] h) fun v h' => v = eI 0 ∧ Fwd [] h h' := by
  refine call_W noExt_mono (f := n_runs_Runs_Count) rfl rfl ?_
  simp [ones, Ends, Fwd.refl]
theorem misses_nil (h : Hp) : WA (C0 n_runs_Runs_Misses [.nilp] h) fun v h' => v = eI 0 ∧ Fwd [] h h' := by
  refine call_W noExt_mono (f := n_runs_Runs_Misses) rfl rfl ?_
  simp [ones, Ends, Fwd.refl]
theorem lost_nil (h : Hp) : WA (C0 n_runs_Runs_Lost [.nilp] h) fun v h' => v = eB false ∧ Fwd [] h h' := by
  refine call_W noExt_mono (f := n_runs_Runs_Lost) rfl rfl ?_
  simp [ones, Ends, Fwd.refl]
theorem chain_new (h : Hp) : WA (C0 n_chain_New [] h) fun v h' => (∃ id, v = .ptr id 0 0 0) ∧ Fwd [] h h' := by
  refine call_W noExt_mono (f := n_chain_New) rfl rfl ?_
  simp [ones, Ends]
  repeat first | exact Fwd.refl _ _ | refine Fwd.new ?_ _
theorem bn1 : binOp .neq .ptr .nilp .nilp = some (eB false) := rfl
theorem bn2 (a b c d : Nat) : binOp .neq .ptr (.ptr a b c d) .nilp = some (eB true) := rfl
set_option linter.unusedVariables false in
theorem new_ok {c1 c2 c3 : EV} (o1 : c1.one = true) (o2 : c2.one = true) (o3 : c3.one = true) (q1 : EV.eqb c1 c1 = true) (q2 : EV.eqb c2 c2 = true) (q3 : EV.eqb c3 c3 = true) {n : Int} {d : Bool} {h : Hp} (hl : h.lim ≤ h.objs.length) (hr : ∀ h', Fwd [] h h' → C0 n_table_Right [.agg [c1, c2, c3]] h' = some (eB d, h')) :
    WA (C0 n_runs_New [.agg [c1, c2, c3], eI n] h) fun v h' => binOp .neq .ptr v .nilp = some (eB (d && (decide (1 ≤ n) && decide (n ≤ 4096)))) ∧ Fwd [] h h' := by
  refine call_W noExt_mono (f := n_runs_New) rfl rfl ?_
  simp [ones, o1, o2, o3]
  refine PutA_eq (hr _ ((Fwd.refl [] _).new _)) ?_
  have F1 : Fwd [] h (h.new (.cells ⟨0, 3, true, 0, [[c1, c2, c3]]⟩)) := (Fwd.refl [] _).new _
  cases d with
  | false =>
    simp [Ends, bn1]
    exact F1
  | true =>
    by_cases h1 : n < 1
    · have : ¬ 1 ≤ n := by omega
      simp [h1, Ends, this]
      exact F1
    · have h1' : 1 ≤ n := by omega
      by_cases h2 : 4096 < n
      · have : ¬ n ≤ 4096 := by omega
        simp [h1, h2, Ends, this, h1']
        exact F1
      · have h2' : n ≤ 4096 := by omega
        simp [h1, h2, h1', h2']
        refine PutC_of (chain_new _) ?_
        rintro _ H2 ⟨⟨id, rfl⟩, f2⟩
        have a2 := f2.arr (id := h.objs.length) (g := 0) (ar := ⟨0, 3, true, 0, [[c1, c2, c3]]⟩) (by simp) (by simp)
        have F2 := (F1.new _).trans f2
        have := F2.lim
        simp [a2, q1, q2, q3, ones, o1, o2, o3, Ends]
        simpa [← this] using F2.new _
theorem new_none {c1 c2 c3 : EV} (o1 : c1.one = true) (o2 : c2.one = true) (o3 : c3.one = true) {n : Int} {h : Hp} (hr : ∀ h', Fwd [] h h' → C0 n_table_Right [.agg [c1, c2, c3]] h' = some (eB false, h')) :
    WA (C0 n_runs_New [.agg [c1, c2, c3], eI n] h) fun v h' => v = .nilp ∧ Fwd [] h h' := by
  refine call_W noExt_mono (f := n_runs_New) rfl rfl ?_
  simp [ones, o1, o2, o3]
  refine PutA_eq (hr _ ((Fwd.refl [] _).new _)) ?_
  have F1 : Fwd [] h (h.new (.cells ⟨0, 3, true, 0, [[c1, c2, c3]]⟩)) := (Fwd.refl [] _).new _
  simp [Ends]
  exact F1

/-! A table of one cell, wherever it lies. -/
def cell0 : Obj := .cells ⟨0, 4, true, 0, [[eI 0, eB false, .full [], .full []]]⟩
def tab (i : Nat) : EV := .agg [.arr i 0 4 0 1 true, eI 3, eB false]
theorem right_run : run n_table_Right [tab 0] (heapOf [cell0] 0) = some (eB true, heapOf [cell0] 0) := by kernel_rfl
theorem right_zero_run : run n_table_Right [.agg [.full [], eI 0, eB false]] noneK = some (eB false, noneK) := by kernel_rfl
theorem Sh_one {h : Hp} {i : Nat} (ho : h.objs[i]? = some cell0) (hl : h.lim ≤ i) : Sh (fun j => if j = 0 then i else j - 1 + h.objs.length) ⟨[cell0], 0⟩ h := by
  have hi := (List.getElem?_eq_some_iff.1 ho).1
  refine ⟨fun j o e => ?_, fun k => ?_, fun j _ => ?_, fun a b e => ?_, fun j l e => ?_⟩
  · cases j with
    | zero =>
      simp at e
      subst e
      exact ho
    | succ j => simp at e
  · simp
    omega
  · show h.lim ≤ if j = 0 then i else j - 1 + h.objs.length
    split <;> omega
  · split at e <;> split at e <;> omega
  · cases j with
    | zero => simp [cell0] at e
    | succ j => simp at e
theorem right_any {h : Hp} {i : Nat} (ho : h.objs[i]? = some cell0) (hl : h.lim ≤ i) : C0 n_table_Right [tab i] h = some (eB true, h) := by
  obtain ⟨h', e, R⟩ := runC_ok (ext := noExt) small noYield noExt_mono right_run (heapOf_ok (by simp))
  have hi := (List.getElem?_eq_some_iff.1 ho).1
  obtain ⟨h2, e2, -⟩ := call_ren closed _ _ _ _ _ _ _ e (Sh_one ho hl)
  have e3 := call_same (f := n_table_Right) (d := d_table_Right) (by kernel_rfl) rfl rfl e2
  rw [e3] at e2
  have : [tab 0].map (EV.ren fun j => if j = 0 then i else j - 1 + h.objs.length) = [tab i] := by simp [tab, EV.ren, EV.rens]
  rw [this] at e2
  exact e2
theorem right_zero {h : Hp} (hh : h.lim ≤ h.objs.length) : C0 n_table_Right [.agg [.full [], eI 0, eB false]] h = some (eB false, h) := by
  obtain ⟨h', e, R⟩ := runC_ok (ext := noExt) small noYield noExt_mono right_zero_run noneK_rel
  rw [noneK_is R] at e
  exact call_any closed (f := n_table_Right) (d := d_table_Right) (by kernel_rfl) rfl rfl rfl rfl e hh

theorem runsNil_ok (n e1 e2 e3 e4 e5 e6 : Int) : C0 n_sibyllaw14_RunsNil [eI n, .agg [eI e1, eI e2, eI e3, eI e4, eI e5, eI e6]] ⟨[], 0⟩ = some (eB true, ⟨[], 0⟩) := by
  refine call_loc noExt_mono (f := n_sibyllaw14_RunsNil) rfl rfl rfl fun h0 e0 el => ?_
  obtain ⟨os, lim⟩ := h0
  simp at e0 el
  subst e0 el
  simp [ones]
  refine PutA_of (feed_nil 1 0 0 (e1 := eI e1) (e2 := eI e2) (e3 := eI e3) (e4 := eI e4) (e5 := eI e5) (e6 := eI e6) rfl rfl rfl rfl rfl rfl _ (by simp)) ?_
  rintro _ H1 ⟨rfl, f1⟩
  have o1 : H1.objs[1]? = some cell0 := (f1.same 1 (by simp) (by simp)).trans rfl
  have a2 : H1.arr 2 0 = some ⟨0, 3, true, 0, [[.arr 1 0 4 0 1 true, eI 3, eB false]]⟩ := f1.arr (by simp) (by simp)
  have L1 : H1.lim = 0 := f1.lim
  have n1 : 3 ≤ H1.objs.length := by
    have := f1.len
    simpa using this
  clear f1
  simp [L1, ones]
  obtain ⟨X, hX⟩ : ∃ X, X = (H1.new (.cells ⟨0, 4, true, 0, [[.full [], .full [], .full [], eB false]]⟩)).setArr H1.objs.length ⟨0, 4, true, 0, [[.full [], .full [], .full [], eB false]]⟩ := ⟨_, rfl⟩
  rw [← hX]
  have fX : Fwd [] H1 X := by rw [hX]; exact ((Fwd.refl [] H1).new _).set _ (.inr (Nat.le_refl _))
  have a7 : X.arr H1.objs.length 0 = some ⟨0, 4, true, 0, [[.full [], .full [], .full [], eB false]]⟩ := by rw [hX]; simp [Hp.arr_set]
  clear hX
  have hXl : X.lim ≤ X.objs.length := by rw [fX.lim, L1]; exact Nat.zero_le _
  refine PutA_eq (awake_ok hXl) ?_
  have w0 : IntKind.i64.wrap 0 = 0 := wrap64 (by omega) (by omega)
  simp [a7, w0]
  refine PutA_of (end_nil _) ?_
  rintro _ H2 ⟨⟨_, _, _, _, _, rfl⟩, f2⟩
  simp
  refine PutA_of (count_nil _) ?_
  rintro _ H3 ⟨rfl, f3⟩
  simp
  refine PutA_of (misses_nil _) ?_
  rintro _ H4 ⟨rfl, f4⟩
  simp [w0]
  refine PutA_of (lost_nil _) ?_
  rintro _ H5 ⟨rfl, f5⟩
  have F5 : Fwd [] H1 H5 := (((fX.trans f2).trans f3).trans f4).trans f5
  have L5 : H5.lim = 0 := F5.lim.trans L1
  simp
  refine PutA_of (new_none (c1 := .full []) (c2 := eI 0) (c3 := eB false) (n := 5) rfl rfl rfl (h := H5) fun h' f => right_zero (by rw [f.lim, L5]; exact Nat.zero_le _)) ?_
  rintro _ H6 ⟨rfl, f6⟩
  have F6 := F5.trans f6
  have L6 : H6.lim = 0 := F6.lim.trans L1
  have o6 : H6.objs[1]? = some cell0 := (F6.same 1 (by omega) (by simp)).trans o1
  have a6 := F6.arr a2 (by simp)
  simp [a6]
  refine PutA_of (new_ok (c1 := .arr 1 0 4 0 1 true) (c2 := eI 3) (c3 := eB false) (n := n) (d := true) rfl rfl rfl (by simp) (by simp [PD.eqb]) (by simp [PD.eqb]) (h := H6) (by rw [L6]; exact Nat.zero_le _) fun h' f => right_any (i := 1) ((f.same 1 (by have := F6.len; omega) (by simp)).trans o6) (by rw [f.lim, L6]; exact Nat.zero_le _)) ?_
  rintro u H7 ⟨hu, f7⟩
  by_cases h1 : 1 ≤ n
  · by_cases h2 : n ≤ 4096
    · simp [h1, h2] at hu
      simp [hu, h1, h2, Ends]
    · simp [h1, h2] at hu
      simp [hu, h1, h2, Ends]
  · simp [h1] at hu
    simp [hu, h1, Ends]
theorem runsNil_D : ∀ xss, Typed [([.int .i64], false), ([.int .i64, .int .i64, .int .i64, .int .i64, .int .i64, .int .i64], true)] xss → C0 n_sibyllaw14_RunsNil (argsEV [([.int .i64], false), ([.int .i64, .int .i64, .int .i64, .int .i64, .int .i64, .int .i64], true)] xss) ⟨[], 0⟩ = some (eB true, ⟨[], 0⟩) := by
  intro xss h
  simp only [Typed, PTs, PT] at h
  obtain ⟨_, _, rfl, ⟨_, _, rfl, ⟨n, rfl, -⟩, rfl⟩, ⟨_, _, rfl, ⟨_, _, rfl, ⟨e1, rfl, -⟩, ⟨_, _, rfl, ⟨e2, rfl, -⟩, ⟨_, _, rfl, ⟨e3, rfl, -⟩, ⟨_, _, rfl, ⟨e4, rfl, -⟩, ⟨_, _, rfl, ⟨e5, rfl, -⟩, ⟨_, _, rfl, ⟨e6, rfl, -⟩, rfl⟩⟩⟩⟩⟩⟩, rfl⟩⟩ := h
  exact runsNil_ok n e1 e2 e3 e4 e5 e6
end Dk.U
