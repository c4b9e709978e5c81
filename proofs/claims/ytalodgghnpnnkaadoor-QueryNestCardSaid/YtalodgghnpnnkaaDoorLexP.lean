/- What tokens are, in plain words. -/
import Derived.Test.YtalodgghnpnnkaaDoorP
set_option linter.unusedVariables false
set_option linter.unusedSimpArgs false
set_option linter.unusedSectionVars false
namespace Dk.M
open Go Dk
variable [Mx]
def mkS (l : List UInt8) : ByteArray := ⟨l.toArray⟩
omit [Mx]
@[simp] theorem mkS_size (l : List UInt8) : (mkS l).size = l.length := by simp [mkS, ByteArray.size]
@[simp] theorem mkS_get (l : List UInt8) (i : Nat) (h : i < (mkS l).size) : (mkS l)[i]'h = l[i]'(by simpa using h) := by
 simp [mkS, ByteArray.getElem_eq_getElem_data]
@[simp] theorem mkS_getq (l : List UInt8) (i : Nat) : (mkS l)[i]? = l[i]? := by
 by_cases h : i < l.length
 · rw [getElem?_pos _ _ (by simpa using h), mkS_get, List.getElem?_eq_getElem h]
 · rw [getElem?_neg _ _ (by simpa using h), List.getElem?_eq_none (by omega)]
@[simp] theorem mkS_data (l : List UInt8) : (mkS l).data = l.toArray := rfl
theorem mkS_of (s : ByteArray) : s = mkS s.data.toList := by cases s; simp [mkS]
theorem mkS_ext (l : List UInt8) (a b : Nat) : (mkS l).extract a b = mkS ((l.take b).drop a) := by
 rw [mkS_of ((mkS l).extract a b)]
 congr 1
 simp [ByteArray.data_extract, List.extract_eq_take_drop, List.drop_take]
def smallB (c : UInt8) : Bool := decide (97 ≤ c.toNat) && decide (c.toNat ≤ 122)
def digitB (c : UInt8) : Bool := decide (48 ≤ c.toNat) && decide (c.toNat ≤ 57)
def letterB (c : UInt8) : Bool := smallB c || (decide (65 ≤ c.toNat) && decide (c.toNat ≤ 90))
def wordB (c : UInt8) : Bool := smallB c || digitB c
def blanks : List UInt8 := [32, 9, 10]
def inB (l : List UInt8) (c : UInt8) : Bool := l.contains c
def blankB (c : UInt8) : Bool := inB blanks c
def runN (p : UInt8 → Bool) : List UInt8 → Nat
 | [] => 0
 | c :: r => if p c = true then runN p r + 1 else 0
def endsB (p : UInt8 → Bool) : List UInt8 → Bool
 | [] => true
 | c :: _ => !p c
theorem runN_le (p : UInt8 → Bool) : ∀ l, runN p l ≤ l.length
 | [] => Nat.le_refl _
 | c :: r => by
  have := runN_le p r
  unfold runN
  split <;> simp <;> omega
def numL : Int → List UInt8 → Option Int
 | n, [] => some n
 | n, c :: r => if (9223372036854775807 - ((c.toNat : Int) - 48)) / 10 < n then none else numL (n * 10 + ((c.toNat : Int) - 48)) r
def signs1 : List UInt8 := [44, 43, 45, 42, 47, 37, 61, 60, 62, 46, 35, 33, 40, 41]
def signs2 : List UInt8 := [33, 60, 62]
def signN : List UInt8 → Nat
 | [] => 0
 | c :: r => if r.head? = some 61 ∧ inB signs2 c = true then 2 else if inB signs1 c = true then 1 else 0
def tokL : List UInt8 → Option (Int × Nat × Int)
 | [] => none
 | c :: r =>
  if smallB c = true then some (1, runN wordB (c :: r), 0)
  else if digitB c = true then
   match numL 0 ((c :: r).take (runN digitB (c :: r))) with
   | some n => if endsB letterB ((c :: r).drop (runN digitB (c :: r))) = true then some (3, runN digitB (c :: r), n) else none
   | none => none
  else if 65 ≤ c.toNat ∧ c.toNat ≤ 72 then
   if endsB letterB r = true ∧ endsB digitB r = true then some (2, 1, (c.toNat : Int) - 65) else none
  else if signN (c :: r) ≠ 0 then some (4, signN (c :: r), 0) else none
structure Tok where
 (kind at_ : Int)
 text : List UInt8
 n : Int
 deriving DecidableEq
def Tok.pd (t : Tok) : PD := .agg [.int .i64 t.kind, .int .i64 t.at_, .str (mkS t.text), .int .i64 t.n]
def Tok.cells (t : Tok) : List EV := [eI t.kind, eI t.at_, .p (.str (mkS t.text)), eI t.n]
theorem Tok.pdev (t : Tok) : toEV t.pd = t.cells := rfl
theorem runN_pos {p : UInt8 → Bool} {c : UInt8} {r : List UInt8} (h : p c = true) : 0 < runN p (c :: r) := by simp [runN, h]
theorem tokL_len {l : List UInt8} {k : Int} {m : Nat} {n : Int} (h : tokL l = some (k, m, n)) : 0 < m ∧ m ≤ l.length := by
 cases l with
 | nil => simp [tokL] at h
 | cons c r =>
  have w := runN_le wordB (c :: r)
  have d := runN_le digitB (c :: r)
  simp only [tokL] at h
  split at h
  · rename_i hs
    cases h
    exact ⟨runN_pos (by simp [wordB, hs]), w⟩
  · split at h
    · rename_i hd
      split at h
      · split at h
        · cases h
          exact ⟨runN_pos hd, d⟩
        · cases h
      · cases h
    · split at h
      · split at h
        · cases h
          simp
        · cases h
      · split at h
        · rename_i hs
          cases h
          refine ⟨by omega, ?_⟩
          simp only [signN]
          split
          · rename_i q
            cases r with
            | nil => simp at q
            | cons => simp
          · split <;> simp
        · cases h
end Dk.M
