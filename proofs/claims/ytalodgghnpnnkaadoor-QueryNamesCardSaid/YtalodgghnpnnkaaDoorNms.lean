/- QueryNames, at D. -/
import Derived.Test.YtalodgghnpnnkaaDoorRef5
import Derived.Test.YtalodgghnpnnkaaDoorAwk
set_option linter.unusedVariables false
set_option linter.unusedSimpArgs false
set_option linter.unusedSectionVars false
namespace Dk.M
open Go Dk
variable [Mx]
theorem rname_ok (l : List UInt8) (h : Hp) (hl : h.lim ≤ h.objs.length) (hs : l.length < 2 ^ 31) : C0 n_sibylref03_Name [.p (.str (mkS l))] h = some (eB (nameB l), h) := by
 refine call_loc noExt_mono (f := n_sibylref03_Name) rfl rfl rfl fun h0 e0 el => ?_
 have hl : h0.lim ≤ h0.objs.length := by omega
 simp
 obtain ⟨_, ⟨w, rfl, hw⟩, hx⟩ := rlex_ok l h0 hl hs
 refine PutA_eq hx ?_
 generalize hL : (lexR l).1 = L at hw
 have hsz : sized 4 (L.map Tok.pd) = true := by simp [sized, Tok.pd]
 have e : L.map Tok.cells = (L.map Tok.pd).map toEV := by simp [Tok.pdev, Function.comp_def]
 have V : View h0 4 w (L.map Tok.cells) := by
  rw [e]
  rcases hw with rfl | rfl
  · exact View.list hsz
  · exact View.full hsz
 clear hw
 have wo := V.one
 have wc := V.cells
 simp [ones, wo, lk hl]
 obtain ⟨X, eX⟩ : ∃ X, X = (h0.new (.cells ⟨0, 3, true, 0, [[.full [], eI 0, eI 0]]⟩)).setArr h0.objs.length ⟨0, 3, true, 0, [[w, eI (lexR l).2.1, eI (lexR l).2.2]]⟩ := ⟨_, rfl⟩
 have FX : Fwd [] h0 X := by rw [eX]; exact ((Fwd.refl _ _).new _).set _ (.inr (Nat.le_refl _))
 have x0 : X.arr h0.objs.length 0 = some ⟨0, 3, true, 0, [[w, eI (lexR l).2.1, eI (lexR l).2.2]]⟩ := by rw [eX]; simp
 rw [← eX]
 clear eX
 have VX := V.pfx (pfx FX)
 refine PutA_eq (rkeyword_ok l X (FX.limlen hl)) ?_
 by_cases h1 : L.length = 1
 · obtain ⟨t, rfl⟩ : ∃ t, L = [t] := List.length_eq_one_iff.1 h1
   obtain ⟨q, q', a1, a2, a3⟩ := VX.fld (i := 0) rfl (show t.cells.length = 4 from rfl) (j := 0) (e := eI t.kind) rfl rfl
   obtain ⟨r, r', b1, b2, b3⟩ := VX.fld (i := 0) rfl (show t.cells.length = 4 from rfl) (j := 2) (e := .p (.str (mkS t.text))) rfl rfl
   have a3 := a3 X (Pfx.refl _)
   have b3 := b3 X (Pfx.refl _)
   simp only [Int.natCast_zero, Int.cast_ofNat_Int] at a1 b1
   rw [a1] at b1
   cases b1
   by_cases hk : t.kind = 1
   · by_cases ht : t.text = l
     · simp [x0, VX.len, a1, a2, a3, b2, b3, hk, ht, str_eql, Ends, nameB, hL]
     · simp [x0, VX.len, a1, a2, a3, b2, b3, hk, ht, str_eql, Ends, nameB, hL]
   · simp [x0, VX.len, a1, a2, a3, hk, Ends, nameB, hL]
 · have h1' : ((L.length : Int) = 1) = False := eq_false (by omega)
   have hn : nameB l = false := by
    unfold nameB
    rw [hL]
    match L, h1 with
    | [], _ => rfl
    | [t], h => exact absurd rfl h
    | _ :: _ :: _, _ => rfl
   simp [x0, VX.len, h1', Ends, hn]
theorem short_ok (l : List UInt8) (h : Hp) : C0 n_sibyllaw03_short [.p (.str (mkS l))] h = some (.p (.str (mkS (l.take 200))), h) := by
 refine call_loc noExt_mono (f := n_sibyllaw03_short) rfl rfl rfl fun h0 e0 el => ?_
 by_cases hl : 200 < l.length
 · have h1 : ((200 : Int) < l.length) = True := eq_true (by omega)
   have := sls_hi l (b := 200) (by omega)
   simp only [Int.cast_ofNat_Int] at this
   simp [h1, this, Ends]
 · have h1 : ((200 : Int) < l.length) = False := eq_false (by omega)
   simp [h1, Ends, List.take_of_length_le (show l.length ≤ 200 by omega)]
omit [Mx] in
theorem nm_a : nameB [97] = true := by kernel_rfl
omit [Mx] in
theorem nm_seq : nameB [115, 101, 113] = false := by kernel_rfl
omit [Mx] in
theorem nm_no : nameB [] = false := by kernel_rfl
theorem names_law (l : List UInt8) : C0 n_sibyllaw03_QueryNames [.p (.str (mkS l))] ⟨[], 0⟩ = some (eB true, ⟨[], 0⟩) := by
 refine call_loc noExt_mono (f := n_sibyllaw03_QueryNames) rfl rfl rfl fun h0 e0 el => ?_
 have hl : h0.lim ≤ h0.objs.length := by omega
 simp
 refine PutA_eq (awake_ok h0 hl) ?_
 simp
 refine PutA_eq (short_ok l h0) ?_
 simp
 refine PutA_eq (name_ok (l.take 200) (by simp; omega) h0 hl) ?_
 simp
 refine PutA_eq (rname_ok (l.take 200) h0 hl (by simp; omega)) ?_
 simp
 refine PutA_eq (name_ok [97] (by decide) h0 hl) ?_
 simp [nm_a]
 refine PutA_eq (name_ok [115, 101, 113] (by decide) h0 hl) ?_
 simp [nm_seq]
 refine PutA_eq (name_ok [] (by decide) h0 hl) ?_
 simp [nm_no, Ends]
theorem queryNames_D : ∀ xss, Typed [([.str], false)] xss → C0 n_sibyllaw03_QueryNames (argsEV [([.str], false)] xss) ⟨[], 0⟩ = some (eB true, ⟨[], 0⟩) := by
 intro xss h
 simp only [Typed, PTs, PT] at h
 obtain ⟨_, _, rfl, ⟨_, _, rfl, ⟨s, rfl, -⟩, rfl⟩, rfl⟩ := h
 rw [mkS_of s]
 exact names_law _
end Dk.M
