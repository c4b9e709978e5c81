/- The tokens of signs and brackets that stand in one another. No program here. -/
import Derived.Test.YtalodgghnpnnkaaDoorLexT
set_option linter.unusedVariables false
set_option linter.unusedSimpArgs false
set_option linter.unusedSectionVars false
namespace Dk.M
open Go Dk
def preT : List UInt8 := [115, 101, 113, 32, 65, 32, 97, 32, 119, 104, 101, 114, 101, 32]
def postT : List UInt8 := [32, 61, 32, 48, 32, 119, 105, 116, 104, 105, 110, 32, 51]
def sg (b : Bool) : UInt8 := if b then 40 else 45
def opens (bs : List Bool) : Nat := bs.count true
def nestT (bs : List Bool) : List UInt8 := preT ++ (bs.map sg ++ (49 :: (List.replicate (opens bs) 41 ++ postT)))
def sgToks : Nat → List UInt8 → List Tok
 | _, [] => []
 | a, c :: r => ⟨4, a, [c], 0⟩ :: sgToks (a + 1) r
theorem tok_sign {c : UInt8} (hc : c = 40 ∨ c = 45 ∨ c = 41) (r : List UInt8) : tokL (c :: r) = some (4, 1, 0) := by
 have h1 : smallB c = false := by rcases hc with rfl | rfl | rfl <;> rfl
 have h2 : digitB c = false := by rcases hc with rfl | rfl | rfl <;> rfl
 have h3 : ¬ (65 ≤ c.toNat ∧ c.toNat ≤ 72) := by rcases hc with rfl | rfl | rfl <;> decide
 have h4 : inB signs2 c = false := by rcases hc with rfl | rfl | rfl <;> rfl
 have h5 : inB signs1 c = true := by rcases hc with rfl | rfl | rfl <;> rfl
 have hs : signN (c :: r) = 1 := by simp [signN, h4, h5]
 simp [tokL, h1, h2, h3, hs]
theorem toks_sign {c : UInt8} (hc : c = 40 ∨ c = 45 ∨ c = 41) (a : Nat) (r : List UInt8) : toks a (c :: r) = (⟨4, a, [c], 0⟩ :: (toks (a + 1) r).1, (toks (a + 1) r).2) := by
 have hb : blankB c = false := by rcases hc with rfl | rfl | rfl <;> rfl
 rw [toks_some a hb (tok_sign hc r)]
 rfl
theorem toks_signs : ∀ (l : List UInt8) (a : Nat) (r : List UInt8), (∀ c ∈ l, c = 40 ∨ c = 45 ∨ c = 41) → toks a (l ++ r) = (sgToks a l ++ (toks (a + l.length) r).1, (toks (a + l.length) r).2)
 | [], a, r, _ => by simp [sgToks]
 | c :: l, a, r, h => by
  rw [List.cons_append, toks_sign (h c (by simp)), toks_signs l (a + 1) r fun d hd => h d (by simp [hd])]
  rw [show a + 1 + l.length = a + (c :: l).length by simp; omega]
  rfl
theorem toks_one (a : Nat) {c : UInt8} (hc : c = 41 ∨ c = 32) (r : List UInt8) : toks a (49 :: c :: r) = (⟨3, a, [49], 1⟩ :: (toks (a + 1) (c :: r)).1, (toks (a + 1) (c :: r)).2) := by
 have hd : digitB c = false := by rcases hc with rfl | rfl <;> rfl
 have hl : letterB c = false := by rcases hc with rfl | rfl <;> rfl
 have ht : tokL (49 :: c :: r) = some (3, 1, 1) := by
  have e : runN digitB (49 :: c :: r) = 1 := by simp [runN, hd, show digitB 49 = true from rfl]
  have e0 : numL 0 [49] = some 1 := rfl
  simp [tokL, show smallB 49 = false from rfl, show digitB 49 = true from rfl, e, e0, endsB, hl]
 rw [toks_some a rfl ht]
 rfl
theorem toks_post (a : Nat) : toks a postT = ([⟨4, (a + 1 : Nat), [61], 0⟩, ⟨3, (a + 3 : Nat), [48], 0⟩, ⟨1, (a + 5 : Nat), [119, 105, 116, 104, 105, 110], 0⟩, ⟨3, (a + 12 : Nat), [51], 3⟩], a + 13) := by
 rfl
theorem toks_pre (r : List UInt8) : toks 0 (preT ++ r) = ([⟨1, 0, [115, 101, 113], 0⟩, ⟨2, 4, [65], 0⟩, ⟨1, 6, [97], 0⟩, ⟨1, 8, [119, 104, 101, 114, 101], 0⟩] ++ (toks 14 r).1, (toks 14 r).2) := by
 have t1 : ∀ r, tokL (115 :: 101 :: 113 :: 32 :: r) = some (1, 3, 0) := fun r => rfl
 have t2 : ∀ r, tokL (65 :: 32 :: r) = some (2, 1, 0) := fun r => rfl
 have t3 : ∀ r, tokL (97 :: 32 :: r) = some (1, 1, 0) := fun r => rfl
 have t4 : ∀ r, tokL (119 :: 104 :: 101 :: 114 :: 101 :: 32 :: r) = some (1, 5, 0) := fun r => rfl
 simp only [preT, List.cons_append, List.nil_append]
 rw [toks_some 0 rfl (t1 _)]
 simp only [List.drop_succ_cons, List.drop_zero, List.take_succ_cons, List.take_zero]
 rw [toks_blank _ _ rfl, toks_some _ rfl (t2 _)]
 simp only [List.drop_succ_cons, List.drop_zero, List.take_succ_cons, List.take_zero]
 rw [toks_blank _ _ rfl, toks_some _ rfl (t3 _)]
 simp only [List.drop_succ_cons, List.drop_zero, List.take_succ_cons, List.take_zero]
 rw [toks_blank _ _ rfl, toks_some _ rfl (t4 _)]
 simp only [List.drop_succ_cons, List.drop_zero, List.take_succ_cons, List.take_zero]
 rw [toks_blank _ _ rfl]
 rfl
end Dk.M
