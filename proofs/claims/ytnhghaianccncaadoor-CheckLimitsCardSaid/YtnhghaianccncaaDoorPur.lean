/- Names, in plain Lean. -/
import Derived.Test.YtnhghaianccncaaDoorPlc
import Derived.Test.YtnhghaianccncaaDoorShows
set_option linter.unusedVariables false
set_option linter.unusedSimpArgs false
set_option linter.unusedSectionVars false
namespace Dk.L
open Go Dk
def Ls (w : EV) (ps : List PD) : Prop := w = .p (.list ps) ∨ w = .full ps
theorem Ls.view {w : EV} {ps : List PD} (L : Ls w ps) {sz : Nat} (hs : sized sz ps = true) (h : Hp) : View h sz w (ps.map toEV) := by
 rcases L with rfl | rfl
 · exact .list hs
 · exact .full hs
def Code.pd (c : Code) : PD := .agg [.int .i64 c.op, .int .i64 c.n, .str c.v, .int .i64 c.field, .int .i64 c.pos]
theorem codes_sized (l : List Code) : sized 5 (l.map Code.pd) = true := by simp [sized, Code.pd, PD.cells]
theorem codes_toEV (l : List Code) : (l.map Code.pd).map toEV = l.map Code.cells := by simp [toEV, Code.pd, Code.cells, PD.cells, Function.comp_def]
theorem codes_all2 {P : Nat → Prop} {h : Hp} {n : Nat} : ∀ l : List Code, All2 (ElShows (Shows P h n) true) (l.map Code.cells) (l.map Code.pd)
 | [] => trivial
 | c :: l => ⟨⟨_, rfl, .plain n, .plain n, .plain n, .plain n, .plain n, trivial⟩, codes_all2 l⟩
def hasN (c : Code) : Bool := decide (c.op = 8) || decide (c.op = 7)
def hasB (s : ByteArray) (l : List ByteArray) : Bool := l.any fun t => decide (s = t)
def nmsF : List ByteArray → List Code → List ByteArray
 | acc, [] => acc
 | acc, c :: r => if (hasN c && !hasB c.v acc) = true then nmsF (acc ++ [c.v]) r else nmsF acc r
def nmsOf (c : Cond) : List ByteArray := nmsF [] (c.l ++ c.r)
def Keys (m : NM) (l : List ByteArray) : Prop := ∀ s, (findS s m).isSome = hasB s l
theorem find_set (s t : ByteArray) (i : Nat) : ∀ m : NM, findS s (setS t i m) = if s = t then some i else findS s m
 | [] => by
  by_cases h : s = t
  · simp [setS, findS, h]
  · simp [setS, findS, h]
 | (x, u) :: r => by
  have ih := find_set s t i r
  simp only [setS]
  by_cases ht : t = x
  · rw [if_pos ht, ← ht]
    simp only [findS]
    by_cases h : s = t
    · rw [if_pos h, if_pos h]
    · rw [if_neg h, if_neg h, if_neg h]
  · rw [if_neg ht]
    simp only [findS]
    by_cases hx : s = x
    · rw [if_pos hx, if_pos hx, if_neg fun q => ht (q.symm.trans hx)]
    · rw [if_neg hx, if_neg hx, ih]
theorem strs_all2 {P : Nat → Prop} {h : Hp} {n : Nat} : ∀ l : List ByteArray, All2 (ElShows (Shows P h n) false) (l.map fun s => [.p (.str s)]) (l.map PD.str)
 | [] => trivial
 | c :: l => ⟨⟨_, rfl, .plain n⟩, strs_all2 l⟩
def knownB (q : Qry) : Bool := q.cs.all (fun c => (nmsOf c).all fun s => (findS s (atM q)).isSome) && decide ((atM q).length = q.es.length)
def atD (m : NM) (s : ByteArray) : Nat := (findS s m).getD 0
def lastF (m : NM) : Nat → List ByteArray → Nat
 | n, [] => n
 | n, s :: r => lastF m (max n (atD m s)) r
def lastN (m : NM) (c : Cond) : Nat := lastF m 0 (nmsOf c)
theorem strs_sized (l : List ByteArray) : sized 1 (l.map PD.str) = true := by simp [sized, PD.cells]
theorem strs_toEV (l : List ByteArray) : (l.map PD.str).map toEV = l.map fun s => [EV.p (.str s)] := by simp [toEV, PD.cells, Function.comp_def]
theorem nmsF_len : ∀ (cs : List Code) (acc : List ByteArray), (nmsF acc cs).length ≤ acc.length + cs.length
 | [], acc => by simp [nmsF]
 | c :: r, acc => by
  rw [nmsF]
  split
  · have := nmsF_len r (acc ++ [c.v]); simp at this ⊢; omega
  · have := nmsF_len r acc; simp at this ⊢; omega
theorem nmsOf_len (c : Cond) : (nmsOf c).length ≤ c.l.length + c.r.length := by
 have := nmsF_len (c.l ++ c.r) []
 simpa [nmsOf] using this
theorem pl_lt (es : List Elem) : ∀ i s k, findS s (pl es i) = some k → k < i
 | 0, s, k, h => by simp [pl, findS] at h
 | i + 1, s, k, h => by
  rw [pl] at h
  split at h
  · rw [find_set] at h
    split at h
    · cases h; omega
    · have := pl_lt es i s k h; omega
  · have := pl_lt es i s k h; omega
theorem atD_lt {q : Qry} (h : 0 < q.es.length) (s : ByteArray) : atD (atM q) s < q.es.length := by
 unfold atD
 cases hf : findS s (atM q) with
 | none => simpa using h
 | some k => exact pl_lt _ _ _ _ hf
end Dk.L
