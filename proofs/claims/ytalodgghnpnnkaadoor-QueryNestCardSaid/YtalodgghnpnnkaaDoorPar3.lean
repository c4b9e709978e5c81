/- The parser: which of some texts stands there, at D. -/
import Derived.Test.YtalodgghnpnnkaaDoorPar2
set_option linter.unusedVariables false
set_option linter.unusedSimpArgs false
set_option linter.unusedSectionVars false
namespace Dk.M
open Go Dk
variable [Mx]
theorem may_no {h : Hp} {P : Nat} {p : Prs} {i n : Nat} (H : Par h P p i n) (s : List UInt8) (hb : p.is i s = false) : WA (C0 n_query_parser_may [.ptr P 0 0 0, .p (.str (mkS s))] h) fun v h' => v = eB false ∧ h' = h := by
 refine call_W noExt_mono (f := n_query_parser_may) rfl rfl ?_
 simp
 refine PutA_eq (is_ok H s) ?_
 simp [hb, Ends]
def pickF (p : Prs) (i : Nat) : Nat → List (List UInt8) → Int × Nat
 | _, [] => (-1, i)
 | k, s :: r => if p.is i s = true then ((k : Int), i + 1) else pickF p i (k + 1) r
def Txs (h : Hp) (P : Nat) (v : EV) (ss : List (List UInt8)) : Prop := ∀ h', Fwd [P] h h' → View h' 1 v (ss.map fun s => [.p (.str (mkS s))])
omit [Mx] in
theorem Txs.fwd {h h' : Hp} {P : Nat} {v : EV} {ss : List (List UInt8)} (T : Txs h P v ss) (f : Fwd [P] h h') : Txs h' P v ss := fun h2 f2 => T h2 (f.trans f2)
structure PkI (h : Hp) (P : Nat) (p : Prs) (i : Nat) (sv : EV) (ss : List (List UInt8)) (z : Nat) (f : Fr) (h' : Hp) : Prop where
 ex : ∃ k : Nat, k ≤ ss.length ∧ z = ss.length - k ∧ h' = h ∧ pickF p i 0 ss = pickF p i k (ss.drop k) ∧ f.get 0 = sv ∧ f.get 1 = .fn (.func n_query_parser_may) [.ptr P 0 0 0] [] ∧ f.get 7 = eI ss.length ∧ f.get 8 = eI k
theorem index_ok {h : Hp} {P : Nat} {p : Prs} {i n : Nat} (H : Par h P p i n) (hw : h.lim ≤ P) {sv : EV} {ss : List (List UInt8)} (T : Txs h P sv ss) (hs : ss.length < 100) :
 WA (C0 n_slices_IndexFunc_77 [sv, .fn (.func n_query_parser_may) [.ptr P 0 0 0] []] h) fun v h' => v = eI (pickF p i 0 ss).1 ∧ Par h' P p (pickF p i 0 ss).2 n ∧ Fwd [P] h h' := by
 refine call_W noExt_mono (f := n_slices_IndexFunc_77) rfl rfl ?_
 have V := T h (Fwd.refl _ _)
 simp [V.len]
 refine Run_loop (PkI h P p i sv ss) (n := ss.length) ⟨0, by omega, by omega, rfl, by simp, by simp, by simp, by simp, by simp⟩ ?_
 rintro z f h1 ⟨k, k1, k2, rfl, k4, g0, g1, g7, g8⟩
 by_cases hk : k < ss.length
 · have w : IntKind.i64.wrap ((k : Int) + 1) = ((k + 1 : Nat) : Int) := by rw [wrap64 (by omega) (by omega)]; omega
   obtain ⟨s, hsk⟩ : ∃ s, ss[k] = s := ⟨_, rfl⟩
   obtain ⟨q, q1, q2⟩ := V.get1 (i := k) (e := .p (.str (mkS s))) (by simp [hk, hsk])
   have q2 := q2 h1 (Pfx.refl _)
   rw [List.drop_eq_getElem_cons hk, hsk, pickF] at k4
   simp [g0, g1, g7, g8, hk, q1, q2, act]
   cases hb : p.is i s with
   | true =>
    refine PutA_of (may_ok H hw s) ?_
    rintro _ h2 ⟨rfl, H2, F2⟩
    rw [hb] at H2
    simp [hb, Ends]
    rw [Hp.back_of F2.lim, k4, if_pos hb]
    exact ⟨rfl, H2, F2⟩
   | false =>
    refine PutA_of (may_no H s hb) ?_
    rintro _ h2 ⟨rfl, e2⟩
    rw [e2]
    simp [g0, g1, g7, g8, w]
    rw [if_neg (by simp [hb])] at k4
    exact ⟨ss.length - (k + 1), by omega, k + 1, by omega, rfl, rfl, k4, by simp [g0], by simp [g1], by simp [g7], by simp⟩
 · have : ss.drop k = [] := List.drop_eq_nil_of_le (by omega)
   rw [this, pickF] at k4
   simp [g7, g8, hk, Ends, k4]
   exact ⟨H, Fwd.refl _ _⟩
theorem pick_ok {h : Hp} {P : Nat} {p : Prs} {i n : Nat} (H : Par h P p i n) (hw : h.lim ≤ P) {sv : EV} {ss : List (List UInt8)} (T : Txs h P sv ss) (hs : ss.length < 100) :
 WA (C0 n_query_parser_pick [.ptr P 0 0 0, sv, pagm] h) (Out h P p n (fun k x _ => x = eI k) (.ok (pickF p i 0 ss))) := by
 refine call_W noExt_mono (f := n_query_parser_pick) rfl rfl ?_
 simp [pagm]
 refine PutA_of (index_ok H hw T hs) ?_
 rintro _ h1 ⟨rfl, H1, F1⟩
 simp [Ends]
 rw [Hp.back_of F1.lim]
 exact ⟨F1, _, rfl, H1, rfl⟩
end Dk.M
