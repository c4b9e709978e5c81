/- What is asked of a query that is not there. -/
import Derived.Test.YtcbigcpdbidlaaaUpd
import Derived.Test.YtcbigcpdbidlaaaAwake
set_option linter.unusedVariables false
set_option linter.unusedSimpArgs false
set_option linter.unusedSectionVars false
namespace Dk.Q
open Go Dk

def cmd (k i n : Int) : Cmd := ⟨k, i, n, 0, 0, 0, 0, 0, 0, 0, 0, [], 0, false⟩
def rawC (k i n : Int) : List EV := [eI k, eI i, eI n, eI 0, eI 0, eI 0, eI 0, eI 0, eI 0, eI 0, eI 0, .full [], eI 0, eB false]
theorem do_raw {id : Nat} {s k i n : Int} {h : Hp} {K : EV → Hp → Prop} (hw : WA (do0 (doArgs id s (cmd k i n) (.p (.list []))) h) K) : WA (C0 n_qDo [.ptr id 0 0 0, eI s, .agg (rawC k i n), .full []] h) K :=
  do_call (as := doArgs id s (cmd k i n) (.p (.list []))) (os := h.objs) (by simp [shareVs, shareV, rawC, doArgs, cmd, Cmd.cells]) hw

/-- What Do told: an error's number, no refs. -/
structure Told (h h' : Hp) (v : EV) (err : Int) (r : EV) (fr : List Nat) : Prop where
  is : ∃ n m, v = .tup [.agg [eI err, n, m], r] ∧ ones [n, m] = true
  own : Own h' 2 true r [] fr
  new : ∀ x ∈ fr, h.objs.length ≤ x
theorem Tells.told {h h' : Hp} {v : EV} {err n : Int} (H : Tells h h' v err n []) : ∃ r fr, Told h h' v err r fr := by
  obtain ⟨r, fr, e, o, g⟩ := H.is
  exact ⟨r, fr, ⟨_, _, e, by simp [ones, EV.one]⟩, o, fun x hx => (g x hx).resolve_left (by simp)⟩

theorem do_poll_none {h : Hp} {id idm : Nat} {ps : List (Nat × List Nat)} {d : Desk} (H : DeskAt h id idm ps d) (hl : h.lim ≤ h.objs.length) {s : Int} {c : Cmd} {o : EV} (hk : c.kind = 4) (hn : 1 ≤ c.n) (hf : fresh c.id d) :
    WA (do0 (doArgs id s c o) h) fun v h' => Tells h h' v 15 0 [] ∧ Fwd [] h h' := by
  refine do_poll hl hk fun h1 f1 hl1 hl2 => ?_
  have H1 := H.fwd f1 (by simp)
  obtain ⟨v, h2, e, hT, f2⟩ := poll_none H1 hl1 hn hf
  obtain ⟨r, fr, rfl, ow, g⟩ := hT.is
  refine ⟨_, h2, e, f2.mono (by simp), _, r, rfl, rfl, by simp [ones], fun h3 f3 => ⟨⟨r, fr, rfl, ow.fwd f3 fun x hx q => ?_, fun y hy => ?_⟩, ?_⟩⟩
  · have := f1.len
    simp at q
    rcases g x hx with q2 | q2
    · cases q2
    · omega
  · rcases g y hy with q2 | q2
    · cases q2
    · have := f1.len
      exact .inr (by omega)
  · exact (f1.trans f2).trans' f3 (by simp)

/-- One query, that has nothing. -/
abbrev one (cf : Conf) : Desk := ⟨cf, [(5, ⟨[], false⟩)]⟩
end Dk.Q
