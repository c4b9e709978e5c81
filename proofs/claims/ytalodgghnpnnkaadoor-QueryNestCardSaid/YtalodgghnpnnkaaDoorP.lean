/- D's program. -/
import Derived.Test.YtalodgghnpnnkaaDoorCode
import Derived.Test.YtalodgghnpnnkaaDoorQk5
import Derived.Test.YtalodgghnpnnkaaDoorQk6
set_option linter.unusedVariables false
set_option linter.unusedSimpArgs false
set_option linter.unusedSectionVars false
namespace Dk.M
open Go Dk
variable [Mx]
def prog : Prog := progOf progList
noncomputable def C0 : CallFn := call prog noExt
omit [Mx] in
theorem call_locX {p : Prog} {ext : CallFn → CallFn} (hm : ∀ C C', Sub C C' → Sub (ext C) (ext C')) {f np : Nat} {b : DC} {res : List Res} (hd : p f = some ⟨np, b, res, false, true, false⟩) {args : List EV} {h : Hp} {R : EV → Prop} (hl : args.length = np) (hv : ∀ v, R v → EV.under h.objs.length v = true)
 (hw : ∀ h0 : Hp, h0.objs = h.objs → h0.lim = h0.objs.length → Run (call p ext) [.code b] .normal (args0 0 args) h0 (Ends res fun u _ => R u)) : ∃ v, R v ∧ call p ext f args h = some (v, h) := by
 obtain ⟨e, fr, h', r, hne, vs, hvs, q⟩ := W_run (hw { h with lim := h.objs.length } rfl rfl)
 exact ⟨oneEV vs, q, call_of_body hm hd (body_loc (d := ⟨np, b, res, false, true, false⟩) hl rfl rfl rfl (hv _ q) ⟨e, fr, h', r, hne, vs, hvs, rfl⟩)⟩
omit [Mx] in
theorem call_locSX {p : Prog} {ext : CallFn → CallFn} (hm : ∀ C C', Sub C C' → Sub (ext C) (ext C')) {f np : Nat} {b : DC} {res : List Res} (hd : p f = some ⟨np, b, res, true, true, false⟩) {args : List EV} {h : Hp} {R : EV → Prop} (hl : args.length = np) (hv : ∀ v, R v → EV.under h.objs.length v = true)
 (hw : ∀ h0 : Hp, h0.objs = h.objs → h0.lim = h0.objs.length → Run (call p ext) [.code b] .normal (args0 0 args) h0 (EndsS res fun u _ => R u)) : ∃ v, R v ∧ call p ext f args h = some (v, h) := by
 obtain ⟨e, fr, h', r, hne, vs, hvs, us, os, q1, q⟩ := W_run (hw { h with lim := h.objs.length } rfl rfl)
 exact ⟨oneEV us, q, call_of_body hm hd (body_locS (d := ⟨np, b, res, true, true, false⟩) hl rfl rfl rfl (hv _ q) ⟨e, fr, h', r, hne, vs, hvs, us, os, q1, rfl⟩)⟩
omit [Mx] in
theorem lk {l n : Nat} (h : l ≤ n) : (∀ k, (l ≤ n + k) = True) ∧ (l ≤ n) = True := ⟨fun k => eq_true (by omega), eq_true h⟩
abbrev wrongT : Nat := 39
end Dk.M
