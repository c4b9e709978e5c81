/- An event comes. -/
import Derived.Test.YtcbigcpdbidlaaaMerge
set_option linter.unusedVariables false
set_option linter.unusedSimpArgs false
set_option linter.unusedSectionVars false
namespace Dk.Q
open Go Dk

theorem merge_ok {h : Hp} {rv : EV} (hr : rv.cells = [rv] ∧ EV.one rv = true) (hl : h.lim ≤ h.objs.length) :
    WA (C0 n_Merge [.fn (.func n_publish2) [] [], rv] h) fun v h' => v = .fn (.func n_Merge1) [] [.ptr (h.objs.length + 1) 0 0 0, .ptr h.objs.length 0 0 0] ∧ h'.arr h.objs.length 0 = some ⟨0, 1, false, 0, [[.fn (.func n_publish2) [] []]]⟩ ∧
      h'.arr (h.objs.length + 1) 0 = some ⟨0, 1, false, 0, [[rv]]⟩ ∧ Fwd [] h h' ∧ h'.objs.length = h.objs.length + 2 := by
  refine call_W noExt_mono (f := n_Merge) rfl rfl ?_
  simp [Ends, hr.1, hr.2, ones]
  repeat first | exact Fwd.refl _ _ | refine Fwd.new ?_ _

theorem gone_ok {h : Hp} {fd : Fnd} {b : Nat} {v : EV} {R : List (Int × Int)} {fr : List Nat} (hb : h.arr b 0 = some ⟨0, 1, false, 0, [[v]]⟩) (ho : Own h 2 true v (refCells R) fr) (hn : b ∉ fr) (hlb : h.lim ≤ b) (hbd : R.length + fd.refs.length < 1000000) :
    WA (C0 n_publish1 [.agg fd.cells, .ptr b 0 0 0] h) fun _ h' => ∃ v' fr', h'.arr b 0 = some ⟨0, 1, false, 0, [[v']]⟩ ∧ Own h' 2 true v' (refCells (R ++ fd.refs)) fr' ∧ Grown fr h fr' ∧ Fwd (b :: fr) h h' ∧ b ∉ fr' := by
  refine call_W noExt_mono (f := n_publish1) rfl rfl ?_
  have lb := arr_lt hb
  have hl : h.lim ≤ h.objs.length := by omega
  simp [Fnd.cells, ones, hb, nl lb]
  refine PutA_of ((ho.fwd (ids := []) ((Fwd.refl _ _).new _) (by simp)).append (x := .p (.list (fd.refs.map rPD))) (ys := refCells fd.refs) (refs_els _ _) (by simp [refCells]; omega) (by simp; omega)) ?_
  rintro v2 h2 ⟨fr2, ov, f2, g2⟩
  have hb2 := f2.arr (id := b) (g := 0) (ar := ⟨0, 1, false, 0, [[v]]⟩) (by simp [hb, nl lb]) hn
  have lb2 := arr_lt hb2
  have f02 : Fwd fr h h2 := (((Fwd.refl _ _).new _).trans f2 : Fwd fr h h2)
  have lim2 : h2.lim = h.lim := f02.lim
  have one := ov.one
  have nb : b ∉ fr2 := fun q => by
    rcases g2 b q with q2 | q2
    · exact hn q2
    · simp at q2; omega
  simp [hb2, one.1, one.2, ones, lim2, hlb, Ends, lb2]
  rw [Hp.back_of lim2]
  have e : refCells (R ++ fd.refs) = refCells R ++ refCells fd.refs := by simp [refCells]
  rw [e]
  have F : Fwd [b] h2 (h2.setArr b ⟨0, 1, false, 0, [[v2]]⟩) := (Fwd.refl _ _).set _ (by simp)
  exact ⟨fr2, ov.fwd F fun y hy q => by simp at q; subst q; exact nb hy, fun y hy => (g2 y hy).imp (fun q => q) fun q => by simp at q; omega, (f02.mono (fun y hy => List.mem_cons_of_mem _ hy)).trans (F.mono (by simp)), nb⟩
end Dk.Q
