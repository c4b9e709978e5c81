/- A part of the proof: D's calls, and what they come to. No condition. -/
import Derived.Test.YtfdghdmdjfgjiaaGreatDoorCode
import Derived.Test.YtfdghdmdjfgjiaaGreatDoorMk5
set_option linter.unusedVariables false
set_option linter.unusedSimpArgs false
set_option linter.unusedSectionVars false
namespace Dk.C
open Go Dk
def prog : Prog := progOf progList
noncomputable def C0 : CallFn := call prog noExt
/-- A pure call that comes to something of a kind. -/
theorem call_locX {p : Prog} {ext : CallFn → CallFn} (hm : ∀ C C', Sub C C' → Sub (ext C) (ext C')) {f np : Nat} {b : DC} {res : List Res} (hd : p f = some ⟨np, b, res, false, true, false⟩) {args : List EV} {h : Hp} {R : EV → Prop} (hl : args.length = np) (hv : ∀ v, R v → EV.under h.objs.length v = true)
    (hw : ∀ h0 : Hp, h0.objs = h.objs → h0.lim = h0.objs.length → Run (call p ext) [.code b] .normal (args0 0 args) h0 (Ends res fun u _ => R u)) : ∃ v, R v ∧ call p ext f args h = some (v, h) := by
  obtain ⟨e, fr, h', r, hne, vs, hvs, q⟩ := W_run (hw { h with lim := h.objs.length } rfl rfl)
  exact ⟨oneEV vs, q, call_of_body hm hd (body_loc (d := ⟨np, b, res, false, true, false⟩) hl rfl rfl rfl (hv _ q) ⟨e, fr, h', r, hne, vs, hvs, rfl⟩)⟩
theorem call_locSX {p : Prog} {ext : CallFn → CallFn} (hm : ∀ C C', Sub C C' → Sub (ext C) (ext C')) {f np : Nat} {b : DC} {res : List Res} (hd : p f = some ⟨np, b, res, true, true, false⟩) {args : List EV} {h : Hp} {R : EV → Prop} (hl : args.length = np) (hv : ∀ v, R v → EV.under h.objs.length v = true)
    (hw : ∀ h0 : Hp, h0.objs = h.objs → h0.lim = h0.objs.length → Run (call p ext) [.code b] .normal (args0 0 args) h0 (EndsS res fun u _ => R u)) : ∃ v, R v ∧ call p ext f args h = some (v, h) := by
  obtain ⟨e, fr, h', r, hne, vs, hvs, us, os, q1, q⟩ := W_run (hw { h with lim := h.objs.length } rfl rfl)
  exact ⟨oneEV us, q, call_of_body hm hd (body_locS (d := ⟨np, b, res, true, true, false⟩) hl rfl rfl rfl (hv _ q) ⟨e, fr, h', r, hne, vs, hvs, us, os, q1, rfl⟩)⟩
theorem lk {l n : Nat} (h : l ≤ n) : (∀ k, (l ≤ n + k) = True) ∧ (l ≤ n) = True := ⟨fun k => eq_true (by omega), eq_true h⟩
theorem els_fld {sz : Nat} {v : EV} {h : Hp} {els : List (List EV)} (he : elsOf sz v h = some els) {i : Nat} {el : List EV} (hi : els[i]? = some el) (hs : el.length = sz) {j : Nat} {e : EV} (hj : el[j]? = some e) (ho : EV.one e = true) :
    ∃ q q', indexAddr sz v (eI i) = some q ∧ fldAt j q = some q' ∧ loadAt false 1 q' h = some e := by
  obtain ⟨q, q1, q2⟩ := els_get he hi hs .i64
  have key : ∀ (cells : List EV) (o : Nat), el = (cells.drop o).take sz → o + sz ≤ cells.length → o + j + 1 ≤ cells.length ∧ (cells.drop (o + j)).take 1 = [e] := by
    intro cells o e1 e2
    have hl := (List.getElem?_eq_some_iff.1 hj).1
    have h2 : cells[o + j]? = some e := by
      rw [e1, List.getElem?_take, List.getElem?_drop] at hj
      split at hj
      · exact hj
      · cases hj
    have h3 := (List.getElem?_eq_some_iff.1 h2)
    refine ⟨by omega, ?_⟩
    rw [List.drop_eq_getElem_cons h3.1, h3.2]
    rfl
  have mkf : mk false [e] = some e := by simp [mk, ho]
  unfold loadAt at q2
  split at q2
  · rename_i id g k o
    split at q2
    · rename_i a ha
      split at q2
      · rename_i cells hc
        split at q2
        · rename_i hl
          have hel : el = (cells.drop o).take sz := by simpa [mk] using q2.symm
          obtain ⟨k1, k2⟩ := key cells o hel hl
          exact ⟨_, _, q1, rfl, by simp only [loadAt, ha, hc, if_pos k1, k2, mkf]⟩
        · cases q2
      · cases q2
    · cases q2
  · rename_i cs o
    split at q2
    · rename_i hl
      have hel : el = ((cs.map EV.p).drop o).take sz := by
        have : el = ((cs.drop o).take sz).map EV.p := by simpa [mk] using q2.symm
        rw [this, List.map_take, List.map_drop]
      obtain ⟨k1, k2⟩ := key (cs.map EV.p) o hel (by simpa using hl)
      have k1' : o + j + 1 ≤ cs.length := by simpa using k1
      refine ⟨_, _, q1, rfl, ?_⟩
      simp only [loadAt, if_pos k1']
      have : ((cs.drop (o + j)).take 1).map EV.p = [e] := by rw [List.map_take, List.map_drop]; exact k2
      rw [this, mkf]
    · cases q2
  · cases q2
end Dk.C
