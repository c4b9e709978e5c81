/- The parser: one deeper; chains, at D. -/
import Derived.Test.YtalodgghnpnnkaaDoorPar3
import Derived.Test.YtalodgghnpnnkaaDoorQk5
set_option linter.unusedVariables false
set_option linter.unusedSimpArgs false
set_option linter.unusedSectionVars false
namespace Dk.M
open Go Dk
variable [Mx]
def CdA (B : Nat) (l : List Code) (x : EV) (h' : Hp) : Prop := ∃ fr, Own h' 5 true x (l.map Code.cells) fr ∧ ∀ y ∈ fr, B ≤ y
omit [Mx] in
theorem CdA.mono {B B' : Nat} {l : List Code} {x : EV} {h' : Hp} (A : CdA B l x h') (hb : B' ≤ B) : CdA B' l x h' := by
 obtain ⟨fr, O, q⟩ := A
 exact ⟨fr, O, fun y hy => Nat.le_trans hb (q y hy)⟩
def withinF (p : Prs) (n : Nat) (g : Nat → PR (List Code)) (i : Nat) : PR (List Code) := if n = 16 then .error (p.at i, 12) else g (i + 1)
theorem within_ok {P : Nat} {p : Prs} {i n f : Nat} {g : Nat → PR (List Code)} {h : Hp} (H : Par h P p i n) (hw : h.lim ≤ P) (hi : i < p.ts.length)
 (hf : n < 16 → ∀ h i, Par h P p i (n + 1) → h.lim ≤ P → WA (C0 (mayNo + f) [.ptr P 0 0 0, pagm] h) (Out h P p (n + 1) (CdA h.objs.length) (g i))) :
 WA (C0 n_query_parser_within [.ptr P 0 0 0, .fn (.func f) [.ptr P 0 0 0] [], pagm] h) (Out h P p n (CdA h.objs.length) (withinF p n g i)) := by
 refine call_W noExt_mono (f := n_query_parser_within) rfl rfl ?_
 have a0 := H.ar
 have hP := H.lt
 have hd := H.deep
 have hbig := p.big
 have l0 : h.lim ≤ h.objs.length := by omega
 simp [pagm]
 by_cases hn : n = 16
 · have hn' : ((n : Int) = 16) = True := eq_true (by omega)
   simp [a0, nl hP, hn']
   have F1 : Fwd [] h (h.new (.cells ⟨0, 5, true, 0, []⟩)) := (Fwd.refl _ _).new _
   refine PutA_eq (at_ok (H.fwd F1 (by simp))) ?_
   simp [Ends]
   exact ⟨F1.mono (by simp), by simp [withinF, hn, pErr, pv]⟩
 · have hn' : ((n : Int) = 16) = False := eq_false (by omega)
   have w1 : IntKind.i64.wrap ((n : Int) + 1) = ((n + 1 : Nat) : Int) := by rw [wrap64 (by omega) (by omega)]; omega
   have w2 : IntKind.i64.wrap ((i : Int) + 1) = ((i + 1 : Nat) : Int) := by rw [wrap64 (by omega) (by omega)]; omega
   simp [a0, nl hP, hn', w1, w2, lk hw, hP, act]
   obtain ⟨X, eX⟩ : ∃ X, X = ((h.new (.cells ⟨0, 5, true, 0, []⟩)).setArr P ⟨0, 4, true, 0, [[p.w, eI i, eI p.size, .p (.int .i64 ((n : Int) + 1))]]⟩).setArr P ⟨0, 4, true, 0, [[p.w, .p (.int .i64 ((i : Int) + 1)), eI p.size, .p (.int .i64 ((n : Int) + 1))]]⟩ := ⟨_, rfl⟩
   have FX : Fwd [P] h X := by rw [eX]; exact (((Fwd.refl _ _).new _).set _ (.inl (by simp))).set _ (.inl (by simp))
   have HX : Par X P p (i + 1) (n + 1) := ⟨by rw [eX]; simp [nl hP, hP], by omega, by omega⟩
   have hwX : X.lim ≤ P := by rw [FX.lim]; exact hw
   rw [← eX]
   clear eX
   have hB : h.objs.length ≤ X.objs.length := FX.len
   refine PutA_of (hf (by omega) X (i + 1) HX hwX) ?_
   rintro v h2 ⟨F2, hr⟩
   have FT := FX.trans F2
   cases hg : g (i + 1) with
   | error e =>
    obtain ⟨a, e⟩ := e
    rw [hg] at hr
    rw [show v = pErr a e from hr]
    simp [pErr, pv, Ends]
    rw [Hp.back_of FT.lim]
    exact ⟨FT, by simp [withinF, hn, hg, pErr, pv]⟩
   | ok r =>
    obtain ⟨l, j⟩ := r
    rw [hg] at hr
    obtain ⟨x, rfl, H2, A⟩ := hr
    have b0 := H2.ar
    have hP2 := H2.lt
    have hw2 : h2.lim ≤ P := by rw [FT.lim]; exact hw
    simp only [Int.natCast_add, Int.cast_ofNat_Int] at b0
    have w3' : IntKind.i64.wrap (n : Int) = (n : Int) := wrap64 (by omega) (by omega)
    simp [b0, w3', lk hw2, hP2, Ends]
    rw [Hp.back_of FT.lim]
    have F3 : Fwd [P] h2 (h2.setArr P ⟨0, 4, true, 0, [[p.w, eI j, eI p.size, eI n]]⟩) := (Fwd.refl _ _).set _ (.inl (by simp))
    refine ⟨FT.trans F3, ?_⟩
    rw [show withinF p n g i = .ok (l, j) from by simp [withinF, hn, hg]]
    obtain ⟨fr, O, q⟩ := A
    exact ⟨x, rfl, ⟨by simp [hP2], H2.le, H.deep⟩, fr, O.fwd F3 (fun y hy e => by simp at e; have := q y hy; omega), fun y hy => Nat.le_trans hB (q y hy)⟩
def chainL (p : Prs) (g : Nat → PR (List Code)) (first : Int) (ss : List (List UInt8)) : Nat → List Code → Nat → PR (List Code)
 | 0, l, i => .ok (l, i)
 | z + 1, l, i => if (pickF p i 0 ss).1 < 0 then .ok (l, i) else match g (pickF p i 0 ss).2 with
  | .error e => .error e
  | .ok (m, j) => chainL p g first ss z (l ++ m ++ [⟨first + (pickF p i 0 ss).1, 0, mkS [], 0, 0⟩]) j
def chainF (p : Prs) (g : Nat → PR (List Code)) (first : Int) (ss : List (List UInt8)) (i : Nat) : PR (List Code) := match g i with
 | .error e => .error e
 | .ok (l, j) => chainL p g first ss (p.ts.length + 1 - j) l j
def Few (g : Nat → PR (List Code)) : Prop := ∀ i l j, g i = .ok (l, j) → l.length + i ≤ j
omit [Mx] in
theorem pickF_at (p : Prs) (i : Nat) : ∀ (ss : List (List UInt8)) (k : Nat), ((pickF p i k ss).1 = -1 ∧ (pickF p i k ss).2 = i) ∨ (∃ m : Nat, (pickF p i k ss).1 = m ∧ k ≤ m ∧ m < k + ss.length ∧ (pickF p i k ss).2 = i + 1 ∧ i < p.ts.length)
 | [], k => .inl ⟨rfl, rfl⟩
 | s :: r, k => by
  unfold pickF
  split
  · rename_i hb
    refine .inr ⟨k, rfl, by omega, by simp, rfl, ?_⟩
    simp only [Prs.is, Bool.and_eq_true, decide_eq_true_eq] at hb
    exact hb.1
  · rcases pickF_at p i r (k + 1) with q | ⟨m, q1, q2, q3, q4⟩
    · exact .inl q
    · exact .inr ⟨m, q1, by omega, by simp; omega, q4⟩
omit [Mx] in
theorem chainL_few {p : Prs} {g : Nat → PR (List Code)} (hg : Few g) {first : Int} {ss : List (List UInt8)} : ∀ (z : Nat) (l : List Code) (i : Nat) (m : List Code) (j : Nat), chainL p g first ss z l i = .ok (m, j) → m.length + i ≤ l.length + j
 | 0, l, i, m, j, h => by
  simp only [chainL, Except.ok.injEq, Prod.mk.injEq] at h
  obtain ⟨rfl, rfl⟩ := h
  omega
 | z + 1, l, i, m, j, h => by
  unfold chainL at h
  split at h
  · simp only [Except.ok.injEq, Prod.mk.injEq] at h
    obtain ⟨rfl, rfl⟩ := h
    omega
  · rename_i hk
    split at h
    · cases h
    · rename_i m1 j1 hgi
      have h1 := chainL_few hg z _ _ _ _ h
      have h2 := hg _ _ _ hgi
      rcases pickF_at p i ss 0 with ⟨q, -⟩ | ⟨k, -, -, -, q, -⟩
      · rw [q] at hk; omega
      · rw [q] at h2
        simp at h1
        omega
omit [Mx] in
theorem chainF_few {p : Prs} {g : Nat → PR (List Code)} (hg : Few g) {first : Int} {ss : List (List UInt8)} : Few (chainF p g first ss) := by
 intro i l j h
 unfold chainF at h
 split at h
 · cases h
 · rename_i l1 j1 hgi
   have h1 := chainL_few hg _ _ _ _ _ h
   have h2 := hg _ _ _ hgi
   omega
end Dk.M
