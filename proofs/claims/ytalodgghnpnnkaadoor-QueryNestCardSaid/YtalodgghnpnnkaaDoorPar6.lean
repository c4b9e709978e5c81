/- The parser: products, sums, what stands in them, at D. -/
import Derived.Test.YtalodgghnpnnkaaDoorPar5
set_option linter.unusedVariables false
set_option linter.unusedSimpArgs false
set_option linter.unusedSectionVars false
namespace Dk.M
open Go Dk
variable [Mx]
omit [Mx] in
theorem txs_lit {h : Hp} {P id len : Nat} {f : Bool} {ss : List (List UInt8)} (e : h.arr id 0 = some ⟨0, 1, false, 0, ss.map fun s => [.p (.str (mkS s))]⟩) (hne : id ≠ P) (hl : len = ss.length) : Txs h P (.arr id 0 1 0 len f) ss := fun h' F => by
 have := View.arr (off := 0) (len := len) (f := f) (F.arr e (by simpa using hne)) (by simp [hl])
 simpa [hl, List.take_of_length_le] using this
def muls : List (List UInt8) := [[42], [47], [37]]
def adds : List (List UInt8) := [[43], [45]]
omit [Mx] in
theorem Out.cd {h X h1 : Hp} {P n : Nat} {p : Prs} {r : PR (List Code)} {v : EV} (FX : Fwd [P] h X) (O : Out X P p n (CdA X.objs.length) r v h1) : Out h P p n (CdA h.objs.length) r v h1 := by
 refine ⟨FX.trans O.1, ?_⟩
 have := O.2
 cases r with
 | error e => exact this
 | ok q =>
  obtain ⟨l, j⟩ := q
  obtain ⟨x, e, H, A⟩ := this
  exact ⟨x, e, H, A.mono FX.len⟩
def Part (f : Nat) (P : Nat) (p : Prs) (n : Nat) (g : Nat → PR (List Code)) : Prop := ∀ h i, Par h P p i n → h.lim ≤ P → WA (C0 f [.ptr P 0 0 0, pagm] h) (Out h P p n (CdA h.objs.length) (g i))
theorem product_ok {P : Nat} {p : Prs} {n : Nat} {g : Nat → PR (List Code)} (hg : Few g) (hf : Part n_query_parser_unary P p n g) : Part n_query_parser_product P p n (chainF p g 3 muls) := by
 intro h i H hw
 refine call_W noExt_mono (f := n_query_parser_product) rfl rfl ?_
 have hP := H.lt
 have l0 : h.lim ≤ h.objs.length := by omega
 simp [pagm, act, ones]
 obtain ⟨X, eX⟩ : ∃ X, X = (h.new (.cells ⟨0, 5, true, 0, []⟩)).new (.cells ⟨0, 1, false, 0, [[.p (.str (bs [42]))], [.p (.str (bs [47]))], [.p (.str (bs [37]))]]⟩) := ⟨_, rfl⟩
 have FX0 : Fwd [] h X := by rw [eX]; exact ((Fwd.refl _ _).new _).new _
 have FX : Fwd [P] h X := FX0.mono (by simp)
 have x1 : X.arr (h.objs.length + 1) 0 = some ⟨0, 1, false, 0, muls.map fun s => [.p (.str (mkS s))]⟩ := by rw [eX]; simp; rfl
 rw [← eX]
 clear eX
 refine PutA_of (chain_ok hg (by omega) (by decide) (H.fwd FX0 (by simp)) (by rw [FX.lim]; exact hw) (txs_lit x1 (by omega) rfl) hf) ?_
 rintro v h1 O1
 have O := Out.cd FX O1
 have lT := O.1.lim
 generalize chainF p g 3 muls i = r at O ⊢
 cases r with
 | error e =>
  obtain ⟨a, e⟩ := e
  obtain rfl : v = pErr a e := O.2
  simp [pErr, pv, Ends]
  rw [Hp.back_of lT]
  exact O
 | ok q =>
  obtain ⟨l, j⟩ := q
  obtain ⟨x, rfl, -⟩ := O.2
  simp [Ends]
  rw [Hp.back_of lT]
  exact O
theorem sum_ok {P : Nat} {p : Prs} {n : Nat} {g : Nat → PR (List Code)} (hg : Few g) (hf : Part n_query_parser_product P p n g) : Part n_query_parser_sum P p n (chainF p g 1 adds) := by
 intro h i H hw
 refine call_W noExt_mono (f := n_query_parser_sum) rfl rfl ?_
 have hP := H.lt
 have l0 : h.lim ≤ h.objs.length := by omega
 simp [pagm, act, ones]
 obtain ⟨X, eX⟩ : ∃ X, X = (h.new (.cells ⟨0, 5, true, 0, []⟩)).new (.cells ⟨0, 1, false, 0, [[.p (.str (bs [43]))], [.p (.str (bs [45]))]]⟩) := ⟨_, rfl⟩
 have FX0 : Fwd [] h X := by rw [eX]; exact ((Fwd.refl _ _).new _).new _
 have FX : Fwd [P] h X := FX0.mono (by simp)
 have x1 : X.arr (h.objs.length + 1) 0 = some ⟨0, 1, false, 0, adds.map fun s => [.p (.str (mkS s))]⟩ := by rw [eX]; simp; rfl
 rw [← eX]
 clear eX
 refine PutA_of (chain_ok hg (by omega) (by decide) (H.fwd FX0 (by simp)) (by rw [FX.lim]; exact hw) (txs_lit x1 (by omega) rfl) hf) ?_
 rintro v h1 O1
 have O := Out.cd FX O1
 have lT := O.1.lim
 generalize chainF p g 1 adds i = r at O ⊢
 cases r with
 | error e =>
  obtain ⟨a, e⟩ := e
  obtain rfl : v = pErr a e := O.2
  simp [pErr, pv, Ends]
  rw [Hp.back_of lT]
  exact O
 | ok q =>
  obtain ⟨l, j⟩ := q
  obtain ⟨x, rfl, -⟩ := O.2
  simp [Ends]
  rw [Hp.back_of lT]
  exact O
def xyzw : List (List UInt8) := [[120], [121], [122], [119]]
def negR : PR (List Code) → PR (List Code)
 | .error e => .error e
 | .ok (l, j) => .ok (l ++ [⟨9, 0, mkS [], 0, 0⟩], j)
def parR (p : Prs) : PR (List Code) → PR (List Code)
 | .error e => .error e
 | .ok (l, j) => if p.is j [41] = true then .ok (l, j + 1) else .error (p.at j, 11)
def cntR : PR Tok → PR (List Code)
 | .error e => .error e
 | .ok (t, j) => .ok ([⟨8, 0, mkS t.text, 0, 0⟩], j)
def intR : PR Tok → PR (List Code)
 | .error e => .error e
 | .ok (t, j) => .ok ([⟨6, t.n, mkS [], 0, 0⟩], j)
def fldR (p : Prs) : PR Tok → PR (List Code)
 | .error e => .error e
 | .ok (t, j) => if p.is j [46] = true then (if 0 ≤ (pickF p (j + 1) 0 xyzw).1 then .ok ([⟨7, 0, mkS t.text, (pickF p (j + 1) 0 xyzw).1, 0⟩], (pickF p (j + 1) 0 xyzw).2) else .error (p.at (pickF p (j + 1) 0 xyzw).2, 11)) else .error (p.at j, 11)
def unaryS (p : Prs) (n : Nat) (u : Nat → PR (List Code)) (i : Nat) : PR (List Code) :=
 if p.is i [45] = true then negR (withinF p n u i)
 else if p.is i [40] = true then parR p (withinF p n (chainF p (chainF p u 3 muls) 1 adds) i)
 else if p.is i [35] = true then cntR (kindF p (i + 1) 1)
 else if (p.tok i).kind = 3 then intR (kindF p i 3)
 else fldR p (kindF p i 1)
def unaryF (p : Prs) : Nat → Nat → PR (List Code)
 | 0 => unaryS p 16 (fun i => .error (p.at i, 12))
 | d + 1 => unaryS p (15 - d) (unaryF p d)
end Dk.M
