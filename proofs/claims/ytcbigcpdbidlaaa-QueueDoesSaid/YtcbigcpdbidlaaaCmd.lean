/- Acts, as commands. -/
import Derived.Test.YtcbigcpdbidlaaaShows
set_option linter.unusedVariables false
set_option linter.unusedSimpArgs false
set_option linter.unusedSectionVars false
namespace Dk.Q
open Go Dk

def restZ (x n : Int) : Int := (x.tmod n + n).tmod n
theorem restZ_bound {x n : Int} (hn : 0 < n) : 0 ≤ restZ x n ∧ restZ x n < n := by
  have h1 : -n < x.tmod n := Int.lt_tmod_of_pos x hn
  exact ⟨Int.tmod_nonneg _ (by omega), Int.tmod_lt_of_pos _ hn⟩
theorem rest_ok {x n : Int} (hn : 0 < n) (hb : n < 1000) (h : Hp) : C0 n_qrest [eI x, eI n] h = some (eI (restZ x n), h) := by
  refine call_loc noExt_mono (f := n_qrest) rfl rfl rfl fun h0 e0 el => ?_
  have h1 : -n < x.tmod n := Int.lt_tmod_of_pos x hn
  have h2 : x.tmod n < n := Int.tmod_lt_of_pos x hn
  have w1 : IntKind.i64.wrap (x.tmod n + n) = x.tmod n + n := wrap64 (by omega) (by omega)
  have b1 : binOp .rem .none (eI x) (eI n) = some (eI (x.tmod n)) := by simp [binOp, intBin]; omega
  have b2 : binOp .rem .none (eI (x.tmod n + n)) (eI n) = some (eI (restZ x n)) := by simp [binOp, intBin, restZ]; omega
  simp [Ends]
  rw [b1]
  simp [w1]
  rw [b2]
  simp [Ends]

theorem call_locSx {f np : Nat} {b : DC} {res : List Res} (hd : prog f = some ⟨np, b, res, true, true, false⟩) {args : List EV} {h : Hp} (hl : args.length = np) {P : EV → Prop} (hp : ∀ v, P v → EV.under h.objs.length v = true)
    (hw : Run (call prog noExt) [.code b] .normal (args0 0 args) { h with lim := h.objs.length } (EndsS res fun u _ => P u)) : ∃ v, P v ∧ C0 f args h = some (v, h) := by
  obtain ⟨e, fr, h', r, hne, vs, hvs, us, os, q1, q2⟩ := W_run hw
  exact ⟨_, q2, call_of_body noExt_mono hd (body_locS (d := ⟨np, b, res, true, true, false⟩) hl rfl rfl rfl (hp _ q2) ⟨e, fr, h', r, hne, vs, hvs, us, os, q1, rfl⟩)⟩
/-- An act, by numbers. -/
structure Act where
  (kind id n : Int)
  (hits lost : List Int)
  shard : Int
def Act.pd (a : Act) : PD := .agg [iN a.kind, iN a.id, iN a.n, .list (a.hits.map iN), .list (a.lost.map iN), iN a.shard]
def Act.ev (a : Act) : EV := .agg [eI a.kind, eI a.id, eI a.n, .p (.list (a.hits.map iN)), .p (.list (a.lost.map iN)), eI a.shard]
/-- What a command may be. -/
structure CmdOK (c : Cmd) (outs : List OutV) : Prop where
  outs : (c.kind = 1 ∧ OutsOK outs) ∨ (c.kind ≠ 1 ∧ outs = [])
  id : 0 ≤ c.id ∧ c.id ≤ 11

end Dk.Q
