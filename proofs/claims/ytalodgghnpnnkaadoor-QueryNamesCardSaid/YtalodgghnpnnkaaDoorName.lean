/- query.Name, at D: any text. -/
import Derived.Test.YtalodgghnpnnkaaDoorKwK
import Derived.Test.YtalodgghnpnnkaaDoorLex5
set_option linter.unusedVariables false
set_option linter.unusedSimpArgs false
set_option linter.unusedSectionVars false
namespace Dk.M
open Go Dk
variable [Mx]
def nameB (l : List UInt8) : Bool :=
 match (lexR l).1 with
 | [t] => decide (t.kind = 1) && decide (t.text = l) && !kwB l
 | _ => false
theorem tok_small {p : Nat} : ∀ (n : Nat) (a : Nat) (l : List UInt8), l.length ≤ n → ∀ t ∈ (toks a l).1, t.kind = 1 → ∀ c ∈ t.text, c ≠ 32
 | _, a, [], _ => by simp [toks_nil]
 | 0, a, c :: r, h => by simp at h
 | n + 1, a, c :: r, h => by
  simp only [List.length_cons] at h
  by_cases hb : blankB c = true
  · rw [toks_blank a r hb]
    exact tok_small (p := p) n (a + 1) r (by omega)
  · have hb : blankB c = false := by simpa using hb
    cases ht : tokL (c :: r) with
    | none => rw [toks_none a hb ht]; simp
    | some q =>
     obtain ⟨k, m, x⟩ := q
     have hq := tokL_len ht
     simp only [List.length_cons] at hq
     rw [toks_some a hb ht]
     intro t hm hk
     rw [List.mem_cons] at hm
     rcases hm with rfl | hm
     · simp only at hk
       subst hk
       have hw : m = runN wordB (c :: r) := by
        simp only [tokL] at ht
        split at ht
        · cases ht; rfl
        · split at ht
          · split at ht
            · split at ht <;> simp at ht
            · cases ht
          · split at ht
            · split at ht <;> simp at ht
            · split at ht <;> simp at ht
       simp only
       rw [hw]
       intro d hd e
       have := digits_run (p := wordB) (c :: r) d hd
       subst e
       revert this
       decide
     · exact tok_small (p := p) n (a + m) ((c :: r).drop m) (by simp; omega) t hm hk
theorem lexR_small {l : List UInt8} : ∀ t ∈ (lexR l).1, t.kind = 1 → ∀ c ∈ t.text, c ≠ 32 := by
 intro t ht
 have : t ∈ (toks 0 l).1 := by
  unfold lexR at ht
  split at ht
  · simp at ht
  · split at ht
    · simp at ht
    · exact ht
 exact tok_small (p := 0) l.length 0 l (Nat.le_refl _) t this
theorem name_ok (l : List UInt8) (hs : l.length < 2 ^ 31) : NameIs (mkS l) (nameB l) := by
 intro h hl
 refine call_loc noExt_mono (f := n_query_Name) rfl rfl rfl fun h0 e0 el => ?_
 have hl : h0.lim ≤ h0.objs.length := by omega
 simp
 obtain ⟨_, ⟨w, rfl, hw⟩, hx⟩ := lex_ok l h0 hl (by omega)
 refine PutA_eq hx ?_
 have hsm := lexR_small (l := l)
 generalize hL : (lexR l).1 = L at hw hsm
 have hsz : sized 4 (L.map Tok.pd) = true := by simp [sized, Tok.pd]
 have V : View h0 4 w (L.map Tok.cells) := by
  have e : L.map Tok.cells = (L.map Tok.pd).map toEV := by simp [Tok.pdev, Function.comp_def]
  rw [e]
  rcases hw with rfl | rfl
  · exact View.list hsz
  · exact View.full hsz
 clear hw
 by_cases h1 : L.length = 1
 · obtain ⟨t, rfl⟩ : ∃ t, L = [t] := List.length_eq_one_iff.1 h1
   obtain ⟨q, q', a1, a2, a3⟩ := V.fld (i := 0) rfl (show t.cells.length = 4 from rfl) (j := 0) (e := eI t.kind) rfl rfl
   obtain ⟨r, r', b1, b2, b3⟩ := V.fld (i := 0) rfl (show t.cells.length = 4 from rfl) (j := 2) (e := .p (.str (mkS t.text))) rfl rfl
   have a3 := a3 h0 (Pfx.refl _)
   have b3 := b3 h0 (Pfx.refl _)
   simp only [Int.natCast_zero, Int.cast_ofNat_Int] at a1 b1
   rw [a1] at b1
   cases b1
   by_cases hk : t.kind = 1
   · by_cases ht : t.text = l
     · simp [V.len, a1, a2, a3, b2, b3, hk, ht, str_eql]
       refine PutA_eq (keyword_ok (by omega) (by have := hsm t (by simp) hk; rwa [ht] at this) h0 hl) ?_
       simp [Ends, nameB, hL, hk, ht]
     · simp [V.len, a1, a2, a3, b2, b3, hk, ht, str_eql, Ends, nameB, hL]
   · simp [V.len, a1, a2, a3, hk, Ends, nameB, hL]
 · have h1' : ((L.length : Int) = 1) = False := eq_false (by omega)
   have hn : nameB l = false := by
    unfold nameB
    rw [hL]
    match L, h1 with
    | [], _ => rfl
    | [t], h => exact absurd rfl h
    | _ :: _ :: _, _ => rfl
   simp [V.len, h1', Ends, hn]
end Dk.M
