/- The parser: a token of a kind, one of some texts, at D. -/
import Derived.Test.YtalodgghnpnnkaaDoorPar1
set_option linter.unusedVariables false
set_option linter.unusedSimpArgs false
set_option linter.unusedSectionVars false
namespace Dk.M
open Go Dk
variable [Mx]
abbrev PR (α : Type) := Except (Int × Int) (α × Nat)
def Out {α : Type} (h : Hp) (P : Nat) (p : Prs) (n : Nat) (A : α → EV → Hp → Prop) (r : PR α) (v : EV) (h' : Hp) : Prop :=
 Fwd [P] h h' ∧ match r with
 | .ok (a, j) => ∃ x, v = .tup [eB false, x] ∧ Par h' P p j n ∧ A a x h'
 | .error (a, e) => v = pErr a e
def kindF (p : Prs) (i : Nat) (k : Int) : PR Tok :=
 if (decide (i < p.ts.length) && decide ((p.tok i).kind = k) && (!decide (k = 1) || !kwB (p.tok i).text)) = true then .ok (p.tok i, i + 1) else .error (p.at i, 11)
theorem kind_ok {h : Hp} {P : Nat} {p : Prs} {i n : Nat} (H : Par h P p i n) (hw : h.lim ≤ P) (k : Int) :
 WA (C0 n_query_parser_kind [.ptr P 0 0 0, eI k, pagm] h) (Out h P p n (fun t x _ => x = .agg t.cells) (kindF p i k)) := by
 refine call_W noExt_mono (f := n_query_parser_kind) rfl rfl ?_
 have a0 := H.ar
 have hP := H.lt
 have l0 : h.lim ≤ h.objs.length := by omega
 simp [pagm]
 obtain ⟨X, eX⟩ : ∃ X, X = h.new (.cells ⟨0, 4, true, 0, [[eI 0, eI 0, .p (.str (bs [])), eI 0]]⟩) := ⟨_, rfl⟩
 have FX : Fwd [] h X := by rw [eX]; exact (Fwd.refl _ _).new _
 have nX : X.objs.length = h.objs.length + 1 := by rw [eX]; simp
 have x0 : X.arr h.objs.length 0 = some ⟨0, 4, true, 0, [[eI 0, eI 0, .p (.str (bs [])), eI 0]]⟩ := by rw [eX]; simp
 have HX := H.fwd FX (by simp)
 rw [← eX]
 clear eX
 have lX := FX.limlen l0
 refine PutA_eq (now_ok HX) ?_
 simp [Tok.cells, ones, lk lX]
 obtain ⟨Y, eY⟩ : ∃ Y, Y = (X.new (.cells ⟨0, 4, true, 0, [[eI 0, eI 0, .p (.str (bs [])), eI 0]]⟩)).setArr X.objs.length ⟨0, 4, true, 0, [(p.tok i).cells]⟩ := ⟨_, rfl⟩
 have e1 : (X.new (.cells ⟨0, 4, true, 0, [[eI 0, eI 0, .p (.str (bs [])), eI 0]]⟩)).setArr X.objs.length ⟨0, 4, true, 0, [[eI (p.tok i).kind, eI (p.tok i).at_, .p (.str (mkS (p.tok i).text)), eI (p.tok i).n]]⟩ = Y := by rw [eY]; rfl
 have FY : Fwd [] X Y := by rw [eY]; exact ((Fwd.refl _ _).new _).set _ (.inr (Nat.le_refl _))
 have y1 : Y.arr X.objs.length 0 = some ⟨0, 4, true, 0, [(p.tok i).cells]⟩ := by rw [eY]; simp
 have nY : Y.objs.length = X.objs.length + 1 := by rw [eY]; simp
 rw [e1]
 clear e1 eY
 have y0 := FY.arr x0 (by simp)
 have HY := HX.fwd FY (by simp)
 have lY := FY.limlen lX
 have lYP : Y.lim ≤ P := by rw [FY.lim, FX.lim]; exact hw
 have F2 : Fwd [] h Y := FX.trans FY
 have a1 := HY.ar
 have hPY := arr_lt a1
 have hbig := p.big
 have lt5 := arr_lt y1
 have lt4 := arr_lt y0
 have lYh : Y.lim ≤ h.objs.length := by omega
 by_cases hi : i < p.ts.length
 · have wi : IntKind.i64.wrap ((i : Int) + 1) = ((i + 1 : Nat) : Int) := by rw [wrap64 (by omega) (by omega)]; omega
   have neP : (h.objs.length = P) = False := eq_false (by omega)
   have neX : (X.objs.length = P) = False := eq_false (by omega)
   have tin : p.tok i ∈ p.ts := by simp [Prs.tok, hi]
   have htx := p.txt _ tin
   by_cases hk : (p.tok i).kind = k
   · by_cases h1 : k = 1
     · simp [hi, y1, Tok.cells, hk, h1]
       refine PutA_eq (keyword_ok htx.1 (htx.2 (hk.trans h1)) Y lY) ?_
       cases hw1 : kwB (p.tok i).text with
       | true =>
        simp
        refine PutA_of (must_ok HY false) ?_
        rintro _ h2 ⟨rfl, e2⟩
        rw [e2]
        simp [pErr, Ends]
        rw [Hp.back_of F2.lim]
        exact ⟨F2.mono (by simp), by simp [kindF, hi, hk, h1, hw1, pErr]⟩
       | false =>
        simp
        refine PutA_of (must_ok HY true) ?_
        rintro _ h2 ⟨rfl, e2⟩
        rw [e2]
        simp [a1, nl hPY, wi, lk lYP, hPY, y1, y0, nl lt5, lYh, lt4, ones, Tok.cells, neP, neX, Ends]
        rw [Hp.back_of F2.lim]
        refine ⟨((F2.mono (by simp)).set _ (.inl (by simp))).set _ (.inr (Nat.le_refl _)), ?_⟩
        rw [show kindF p i 1 = .ok (p.tok i, i + 1) from by simp [kindF, hi, hk, h1, hw1]]
        exact ⟨_, rfl, ⟨by simp [nl hP, hPY], by omega, H.deep⟩, rfl⟩
     · simp [hi, y1, Tok.cells, hk, h1]
       refine PutA_of (must_ok HY true) ?_
       rintro _ h2 ⟨rfl, e2⟩
       rw [e2]
       simp [a1, nl hPY, wi, lk lYP, hPY, y1, y0, nl lt5, lYh, lt4, ones, Tok.cells, neP, neX, Ends]
       rw [Hp.back_of F2.lim]
       refine ⟨((F2.mono (by simp)).set _ (.inl (by simp))).set _ (.inr (Nat.le_refl _)), ?_⟩
       rw [show kindF p i k = .ok (p.tok i, i + 1) from by simp [kindF, hi, hk, h1]]
       exact ⟨_, rfl, ⟨by simp [nl hP, hPY], by omega, H.deep⟩, rfl⟩
   · simp [hi, y1, Tok.cells, hk]
     refine PutA_of (must_ok HY false) ?_
     rintro _ h2 ⟨rfl, e2⟩
     rw [e2]
     simp [pErr, Ends]
     rw [Hp.back_of F2.lim]
     exact ⟨F2.mono (by simp), by simp [kindF, hi, hk, pErr]⟩
 · simp [hi]
   refine PutA_of (must_ok HY false) ?_
   rintro _ h2 ⟨rfl, e2⟩
   rw [e2]
   simp [pErr, Ends]
   rw [Hp.back_of F2.lim]
   exact ⟨F2.mono (by simp), by simp [kindF, hi, pErr]⟩
end Dk.M
