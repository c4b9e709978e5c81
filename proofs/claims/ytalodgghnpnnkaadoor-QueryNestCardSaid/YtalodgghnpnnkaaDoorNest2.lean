/- The parser over signs and brackets that stand in one another. No program here. -/
import Derived.Test.YtalodgghnpnnkaaDoorNest1
import Derived.Test.YtalodgghnpnnkaaDoorPar9
set_option linter.unusedVariables false
set_option linter.unusedSimpArgs false
set_option linter.unusedSectionVars false
namespace Dk.M
open Go Dk
theorem sgToks_len : ∀ (l : List UInt8) (a : Nat), (sgToks a l).length = l.length
 | [], _ => rfl
 | c :: l, a => by simp [sgToks, sgToks_len l]
theorem sgToks_drop : ∀ (m c a : Nat), m ≤ c → (sgToks a (List.replicate c 41)).drop m = sgToks (a + m) (List.replicate (c - m) 41)
 | 0, c, a, _ => by simp
 | m + 1, 0, a, h => by omega
 | m + 1, c + 1, a, h => by
  rw [List.replicate_succ, sgToks, List.drop_succ_cons, sgToks_drop m c (a + 1) (by omega)]
  rw [show a + 1 + m = a + (m + 1) by omega, show c + 1 - (m + 1) = c - m by omega]
theorem at_drop {p : Prs} {i : Nat} {t : Tok} {r : List Tok} (h : p.ts.drop i = t :: r) : i < p.ts.length ∧ p.tok i = t ∧ p.at i = t.at_ ∧ (∀ s, p.is i s = decide (t.text = s)) ∧ p.ts.drop (i + 1) = r := by
 have hi : i < p.ts.length := by
  by_cases q : i < p.ts.length
  · exact q
  · rw [List.drop_eq_nil_of_le (by omega)] at h
    cases h
 have hg : p.ts[i]? = some t := by
  have := congrArg List.head? h
  rwa [List.head?_drop] at this
 have ht : p.tok i = t := by simp [Prs.tok, hg]
 refine ⟨hi, ht, by simp [Prs.at, hg], fun s => by simp [Prs.is, hi, ht], ?_⟩
 have := congrArg List.tail h
 rwa [List.tail_drop] at this
theorem pick_none {p : Prs} {i : Nat} : ∀ {ss : List (List UInt8)} {k : Nat}, (∀ s ∈ ss, p.is i s = false) → pickF p i k ss = (-1, i)
 | [], k, _ => rfl
 | s :: r, k, h => by
  rw [pickF, if_neg (by simp [h s (by simp)])]
  exact pick_none fun s hs => h s (by simp [hs])
theorem chain_stop {p : Prs} {g : Nat → PR (List Code)} {first : Int} {ss : List (List UInt8)} {i j : Nat} {l : List Code} (hg : g i = .ok (l, j)) (hs : ∀ s ∈ ss, p.is j s = false) : chainF p g first ss i = .ok (l, j) := by
 simp only [chainF, hg]
 cases p.ts.length + 1 - j with
 | zero => rfl
 | succ z =>
  rw [chainL, pick_none hs]
  rfl
theorem chain_err {p : Prs} {g : Nat → PR (List Code)} {first : Int} {ss : List (List UInt8)} {i : Nat} {e : Int × Int} (hg : g i = .error e) : chainF p g first ss i = .error e := by
 simp only [chainF, hg]
def Calm (t : Tok) : Prop := (∀ s ∈ muls, t.text ≠ s) ∧ ∀ s ∈ adds, t.text ≠ s
theorem sum_stop {p : Prs} {u : Nat → PR (List Code)} {i j : Nat} {l : List Code} {t : Tok} {r : List Tok} (hg : u i = .ok (l, j)) (hd : p.ts.drop j = t :: r) (hc : Calm t) : chainF p (chainF p u 3 muls) 1 adds i = .ok (l, j) := by
 have hi := (at_drop hd).2.2.2.1
 refine chain_stop (chain_stop hg fun s hs => ?_) fun s hs => ?_
 · rw [hi]; exact decide_eq_false (hc.1 s hs)
 · rw [hi]; exact decide_eq_false (hc.2 s hs)
theorem calm41 {t : Tok} (h : t.text = [41]) : Calm t := by
 refine ⟨fun s hs => ?_, fun s hs => ?_⟩
 · rw [h]; simp [muls] at hs; rcases hs with rfl | rfl | rfl <;> decide
 · rw [h]; simp [adds] at hs; rcases hs with rfl | rfl <;> decide
theorem unary_nest (p : Prs) (eqT : Tok) (rest : List Tok) : ∀ (bs : List Bool) (d i A B C c : Nat), d ≤ 16 → p.ts.drop i = sgToks A (bs.map sg) ++ (⟨3, B, [49], 1⟩ :: (sgToks C (List.replicate c 41) ++ (eqT :: rest))) → opens bs ≤ c →
 (bs.length ≤ d → ∃ l, unaryF p d i = .ok (l, i + bs.length + 1 + opens bs)) ∧ (d < bs.length → unaryF p d i = .error (((A + d : Nat) : Int), 12))
 | [], d, i, A, B, C, c, hd, h, hc => by
  refine ⟨fun _ => ?_, fun h => by simp at h⟩
  obtain ⟨hi, ht, ha, his, hn⟩ := at_drop h
  have hk : kindF p i 3 = .ok (p.tok i, i + 1) := by simp [kindF, hi, ht]
  have key : ∀ n u, unaryS p n u i = .ok ([⟨6, 1, mkS [], 0, 0⟩], i + 1) := fun n u => by
   simp [unaryS, his, ht, hk, intR]
  refine ⟨[⟨6, 1, mkS [], 0, 0⟩], ?_⟩
  have e : i + ([] : List Bool).length + 1 + opens [] = i + 1 := by simp [opens]
  rw [e]
  cases d with
  | zero => exact key _ _
  | succ d => exact key _ _
 | b :: bs, d, i, A, B, C, c, hd, h, hc => by
  rw [List.map_cons, sgToks, List.cons_append] at h
  obtain ⟨hi, ht, ha, his, hn⟩ := at_drop h
  cases d with
  | zero =>
   refine ⟨fun h => by simp at h, fun _ => ?_⟩
   cases b with
   | true => simp [unaryF, unaryS, his, sg, withinF, parR, ha]
   | false => simp [unaryF, unaryS, his, sg, withinF, negR, ha]
  | succ d =>
   have n16 : ¬ (15 - d = 16) := by omega
   cases b with
   | false =>
    have ho : opens (false :: bs) = opens bs := by simp [opens]
    obtain ⟨k1, k2⟩ := unary_nest p eqT rest bs d (i + 1) (A + 1) B C c (by omega) hn (by rw [ho] at hc; exact hc)
    have hu : unaryF p (d + 1) i = negR (unaryF p d (i + 1)) := by simp [unaryF, unaryS, his, sg, withinF, n16]
    refine ⟨fun hl => ?_, fun hl => ?_⟩
    · obtain ⟨l, hl'⟩ := k1 (by simpa using hl)
      refine ⟨l ++ [⟨9, 0, mkS [], 0, 0⟩], ?_⟩
      rw [hu, hl', negR, ho]
      rw [show i + 1 + bs.length + 1 + opens bs = i + (false :: bs).length + 1 + opens bs by simp; omega]
    · rw [hu, k2 (by simpa using hl), negR]
      rw [show A + 1 + d = A + (d + 1) by omega]
   | true =>
    have ho : opens (true :: bs) = opens bs + 1 := by simp [opens]
    rw [ho] at hc
    obtain ⟨k1, k2⟩ := unary_nest p eqT rest bs d (i + 1) (A + 1) B C c (by omega) hn (by omega)
    have hu : unaryF p (d + 1) i = parR p (chainF p (chainF p (unaryF p d) 3 muls) 1 adds (i + 1)) := by simp [unaryF, unaryS, his, sg, withinF, n16]
    refine ⟨fun hl => ?_, fun hl => ?_⟩
    · obtain ⟨l, hl'⟩ := k1 (by simpa using hl)
      have hdr : p.ts.drop (i + 1 + bs.length + 1 + opens bs) = sgToks (C + opens bs) (List.replicate (c - opens bs) 41) ++ (eqT :: rest) := by
       rw [show i + 1 + bs.length + 1 + opens bs = (i + 1) + (bs.length + (1 + opens bs)) by omega, ← List.drop_drop, hn, ← List.drop_drop]
       rw [List.drop_append_of_le_length (by rw [sgToks_len]; simp)]
       have e0 : (sgToks (A + 1) (bs.map sg)).drop bs.length = [] := List.drop_eq_nil_of_le (by rw [sgToks_len]; simp)
       rw [e0, List.nil_append]
       rw [show 1 + opens bs = opens bs + 1 by omega, List.drop_succ_cons]
       rw [List.drop_append_of_le_length (by rw [sgToks_len]; simp; omega), sgToks_drop _ _ _ (by omega)]
      obtain ⟨m, hm⟩ : ∃ m, c - opens bs = m + 1 := ⟨c - opens bs - 1, by omega⟩
      rw [hm, List.replicate_succ, sgToks, List.cons_append] at hdr
      have hs := sum_stop hl' hdr (calm41 rfl)
      refine ⟨l, ?_⟩
      rw [hu, hs, parR, if_pos (by rw [(at_drop hdr).2.2.2.1]; rfl), ho]
      rw [show i + 1 + bs.length + 1 + opens bs + 1 = i + (true :: bs).length + 1 + (opens bs + 1) by simp; omega]
    · rw [hu, chain_err (chain_err (k2 (by simpa using hl))), parR]
      rw [show A + 1 + d = A + (d + 1) by omega]
end Dk.M
