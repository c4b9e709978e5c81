/- D, a deterministic interpreter over elaborated Go code: values, memory, operations, and how they stand to the model. No condition. -/
import Derived.Lib.Bytealg
import Derived.Lib.IndexEntry
import Derived.Calls
import Derived.Below
import Derived.Laws.CopyRow
import Derived.Lib.Builder
import Derived.Lib.AppendStr
import Derived.Lib.UnsafeStr
import Derived.Laws.Slices
import Derived.Laws.Tables
import Derived.Laws.StructEq
import Derived.Laws.AppendOwn
import Derived.ChangeKeysEq
import Derived.Laws.MakeOwn
set_option linter.unusedVariables false
set_option linter.unusedSimpArgs false
set_option linter.unusedSectionVars false
namespace Dk
open Go
def idxL (sub : List UInt8) : List UInt8 → Nat → Int
 | [], k => if sub.isEmpty then Int.ofNat k else -1
 | b :: l, k => if sub.isPrefixOf (b :: l) then Int.ofNat k else idxL sub l (k + 1)
theorem idxL_eq (sub : List UInt8) : ∀ (l : List UInt8) (k : Nat), idxL sub l k = if Lib.index l sub = -1 then -1 else Lib.index l sub + k
 | [], k => by
  unfold idxL Lib.index
  split
  · simp
  · simp
 | b :: l, k => by
  have ih := idxL_eq sub l (k + 1)
  have hg := Lib.index_ge l sub
  unfold idxL Lib.index
  split
  · simp
  · rw [ih]
    by_cases h : Lib.index l sub = -1
    · simp [h]
    · have h2 : (Lib.index l sub == -1) = false := by simpa using h
      rw [if_neg h, h2]
      simp only [Bool.false_eq_true, if_false]
      rw [if_neg (by omega)]
      omega
theorem idxL_zero (sub l : List UInt8) : idxL sub l 0 = Lib.index l sub := by
 rw [idxL_eq]
 split
 · rename_i h; exact h.symm
 · simp
def idxB (c : UInt8) : List UInt8 → Nat → Int
 | [], _ => -1
 | b :: l, k => if b == c then Int.ofNat k else idxB c l (k + 1)
theorem idxB_eq (c : UInt8) : ∀ (l : List UInt8) (k : Nat), idxB c l k = if Lib.indexByte l c = -1 then -1 else Lib.indexByte l c + k
 | [], k => by simp [idxB, Lib.indexByte]
 | b :: l, k => by
  have ih := idxB_eq c l (k + 1)
  have hg := Lib.indexByte_ge l c
  unfold idxB Lib.indexByte
  split
  · simp
  · rw [ih]
    by_cases h : Lib.indexByte l c = -1
    · simp [h]
    · have h2 : (Lib.indexByte l c == -1) = false := by simpa using h
      rw [if_neg h, h2]
      simp only [Bool.false_eq_true, if_false]
      rw [if_neg (by omega)]
      omega
theorem idxB_zero (c : UInt8) (l : List UInt8) : idxB c l 0 = Lib.indexByte l c := by
 rw [idxB_eq]
 split
 · rename_i h; exact h.symm
 · simp
def sizeLe : Nat → Int → Bool
 | n, .ofNat k => Nat.ble n k
 | _, .negSucc _ => false
theorem sizeLe_le {n : Nat} {m : Int} (h : sizeLe n m = true) : (n : Int) ≤ m := by
 cases m with
 | ofNat k => have := Nat.le_of_ble_eq_true h; show (n : Int) ≤ (k : Int); omega
 | negSucc k => cases h
theorem find_indexByte {fn : Func} (h : fn.name = "internal/bytealg.IndexByteString") : Extern.find fn = some Extern.BytealgIndexByte.indexByte := by
 have e1 : Extern.allGenericRows.lookup "internal/bytealg.IndexByteString" = none := by rfl
 have e2 : Extern.allTypedRows.lookup "internal/bytealg.IndexByteString" = none := by rfl
 have e3 : Extern.allRows.lookup "internal/bytealg.IndexByteString" = some Extern.BytealgIndexByte.indexByte := by rfl
 unfold Extern.find
 simp only [h, e1, e2, e3]
 rfl
theorem find_indexString {fn : Func} (h : fn.name = "internal/bytealg.IndexString") : Extern.find fn = some Extern.BytealgIndex.index := by
 have e1 : Extern.allGenericRows.lookup "internal/bytealg.IndexString" = none := by rfl
 have e2 : Extern.allTypedRows.lookup "internal/bytealg.IndexString" = none := by rfl
 have e3 : Extern.allRows.lookup "internal/bytealg.IndexString" = some Extern.BytealgIndex.index := by rfl
 unfold Extern.find
 simp only [h, e1, e2, e3]
 rfl
theorem next_indexByte {fn : Func} (h : fn.name = "internal/bytealg.IndexByteString") (ho : fn.origin = "") : Extern.findNext fn = none := by
 have e1 : Extern.allNextRows.lookup "internal/bytealg.IndexByteString" = none := by rfl
 have e2 : Extern.allNextRows.lookup "" = none := by rfl
 unfold Extern.findNext
 simp only [h, ho, e1, e2]
 rfl
theorem next_indexString {fn : Func} (h : fn.name = "internal/bytealg.IndexString") (ho : fn.origin = "") : Extern.findNext fn = none := by
 have e1 : Extern.allNextRows.lookup "internal/bytealg.IndexString" = none := by rfl
 have e2 : Extern.allNextRows.lookup "" = none := by rfl
 unfold Extern.findNext
 simp only [h, ho, e1, e2]
 rfl
end Dk
namespace Dk
open Go
inductive PD where
 | int (k : IntKind) (n : Int)
 | bool (b : Bool)
 | str (s : ByteArray)
 | list (xs : List PD)
 | agg (cs : List PD)
 deriving Inhabited
inductive EV where
 | p (x : PD)
 | full (xs : List PD)
 | arr (id gen sz off len : Nat) (full : Bool)
 | ptr (id gen idx off : Nat)
 | sub (id gen idx off sz len : Nat)
 | nilp
 | cp (cs : List PD) (off : Nat)
 | fn (f : Fn) (first captured : List EV)
 | nilf
 | map (id : Nat)
 | nilmap
 | yld (id : Nat)
 | bld (id : Nat)
 | iface (t : Nat) (v : EV)
 | nili
 | agg (cs : List EV)
 | tup (vs : List EV)
 | junk
 deriving Inhabited
mutual
def PD.eqb : PD → PD → Bool
 | .int j a, .int k b => decide (j = k) && decide (a = b)
 | .bool a, .bool b => a == b
 | .str a, .str b => decide (a = b)
 | .list a, .list b => PD.eqbs a b
 | .agg a, .agg b => PD.eqbs a b
 | _, _ => false
def PD.eqbs : List PD → List PD → Bool
 | [], [] => true
 | a :: r, b :: s => PD.eqb a b && PD.eqbs r s
 | _, _ => false
end
mutual
def EV.eqb : EV → EV → Bool
 | .p a, .p b => PD.eqb a b
 | .full a, .full b => PD.eqbs a b
 | .arr a b c d e f, .arr a' b' c' d' e' f' => decide (a = a') && decide (b = b') && decide (c = c') && decide (d = d') && decide (e = e') && f == f'
 | .ptr a b c d, .ptr a' b' c' d' => decide (a = a') && decide (b = b') && decide (c = c') && decide (d = d')
 | .sub a b c d e f, .sub a' b' c' d' e' f' => decide (a = a') && decide (b = b') && decide (c = c') && decide (d = d') && decide (e = e') && decide (f = f')
 | .nilp, .nilp => true
 | .cp a n, .cp b m => PD.eqbs a b && decide (n = m)
 | .fn f a b, .fn g a' b' => decide (f = g) && EV.eqbs a a' && EV.eqbs b b'
 | .nilf, .nilf => true
 | .map a, .map b => decide (a = b)
 | .nilmap, .nilmap => true
 | .yld a, .yld b => decide (a = b)
 | .bld a, .bld b => decide (a = b)
 | .iface t a, .iface u b => decide (t = u) && EV.eqb a b
 | .nili, .nili => true
 | .agg a, .agg b => EV.eqbs a b
 | .tup a, .tup b => EV.eqbs a b
 | _, _ => false
def EV.eqbs : List EV → List EV → Bool
 | [], [] => true
 | a :: r, b :: s => EV.eqb a b && EV.eqbs r s
 | _, _ => false
end
mutual
theorem PD.eqb_eq : ∀ (a b : PD), PD.eqb a b = true → a = b
 | .int j a, b, h => by cases b <;> simp_all [PD.eqb]
 | .bool a, b, h => by cases b <;> simp_all [PD.eqb]
 | .str a, b, h => by cases b <;> simp_all [PD.eqb]
 | .list a, b, h => by cases b <;> simp_all [PD.eqb]; exact PD.eqbs_eq _ _ h
 | .agg a, b, h => by cases b <;> simp_all [PD.eqb]; exact PD.eqbs_eq _ _ h
theorem PD.eqbs_eq : ∀ (a b : List PD), PD.eqbs a b = true → a = b
 | [], b, h => by cases b <;> simp_all [PD.eqbs]
 | a :: r, b, h => by
  cases b with
  | nil => simp [PD.eqbs] at h
  | cons x s =>
   simp [PD.eqbs] at h
   rw [PD.eqb_eq a x h.1, PD.eqbs_eq r s h.2]
end
mutual
@[simp] theorem PD.eqb_self : ∀ (a : PD), PD.eqb a a = true
 | .int j a => by simp [PD.eqb]
 | .bool a => by simp [PD.eqb]
 | .str a => by simp [PD.eqb]
 | .list a => by simp [PD.eqb, PD.eqbs_self a]
 | .agg a => by simp [PD.eqb, PD.eqbs_self a]
@[simp] theorem PD.eqbs_self : ∀ (a : List PD), PD.eqbs a a = true
 | [] => by simp [PD.eqbs]
 | a :: r => by simp [PD.eqbs, PD.eqb_self a, PD.eqbs_self r]
end
mutual
theorem EV.eqb_eq : ∀ (a b : EV), EV.eqb a b = true → a = b
 | .p a, b, h => by cases b <;> simp_all [EV.eqb]; exact PD.eqb_eq _ _ h
 | .full a, b, h => by cases b <;> simp_all [EV.eqb]; exact PD.eqbs_eq _ _ h
 | .arr .., b, h => by cases b <;> simp_all [EV.eqb]
 | .ptr .., b, h => by cases b <;> simp_all [EV.eqb]
 | .sub .., b, h => by cases b <;> simp_all [EV.eqb]
 | .nilp, b, h => by cases b <;> simp_all [EV.eqb]
 | .cp a n, b, h => by cases b <;> simp_all [EV.eqb]; exact PD.eqbs_eq _ _ h.1
 | .fn f a c, b, h => by cases b <;> simp_all [EV.eqb]; exact ⟨EV.eqbs_eq _ _ h.1.2, EV.eqbs_eq _ _ h.2⟩
 | .nilf, b, h => by cases b <;> simp_all [EV.eqb]
 | .map a, b, h => by cases b <;> simp_all [EV.eqb]
 | .nilmap, b, h => by cases b <;> simp_all [EV.eqb]
 | .yld a, b, h => by cases b <;> simp_all [EV.eqb]
 | .bld a, b, h => by cases b <;> simp_all [EV.eqb]
 | .iface t a, b, h => by cases b <;> simp_all [EV.eqb]; exact EV.eqb_eq _ _ h.2
 | .nili, b, h => by cases b <;> simp_all [EV.eqb]
 | .agg a, b, h => by cases b <;> simp_all [EV.eqb]; exact EV.eqbs_eq _ _ h
 | .tup a, b, h => by cases b <;> simp_all [EV.eqb]; exact EV.eqbs_eq _ _ h
 | .junk, b, h => by cases b <;> simp_all [EV.eqb]
theorem EV.eqbs_eq : ∀ (a b : List EV), EV.eqbs a b = true → a = b
 | [], b, h => by cases b <;> simp_all [EV.eqbs]
 | a :: r, b, h => by
  cases b with
  | nil => simp [EV.eqbs] at h
  | cons x s =>
   simp [EV.eqbs] at h
   rw [EV.eqb_eq a x h.1, EV.eqbs_eq r s h.2]
end
def PD.cells : PD → List PD
 | .agg cs => cs
 | x => [x]
def toEV (x : PD) : List EV := x.cells.map .p
def EV.cells : EV → List EV
 | .agg cs => cs
 | e => [e]
def mk (ag : Bool) (cs : List EV) : Option EV :=
 if ag then some (.agg cs) else match cs with
  | [c] => some c
  | _ => none
structure Arr where
 gen : Nat
 sz : Nat
 ag : Bool
 frz : Nat
 els : List (List EV)
 deriving Inhabited
mutual
def EV.under (n : Nat) : EV → Bool
 | .arr id .. => decide (id < n)
 | .ptr id .. => decide (id < n)
 | .sub id .. => decide (id < n)
 | .map id => decide (id < n)
 | .yld id => decide (id < n)
 | .bld id => decide (id < n)
 | .fn _ a b => EV.unders n a && EV.unders n b
 | .iface _ v => EV.under n v
 | .agg cs => EV.unders n cs
 | .tup cs => EV.unders n cs
 | _ => true
def EV.unders (n : Nat) : List EV → Bool
 | [] => true
 | a :: r => EV.under n a && EV.unders n r
end
def EV.one : EV → Bool
 | .agg _ | .tup _ | .junk | .bld _ => false
 | _ => true
abbrev Fr := List (Nat × EV)
def Fr.get : Fr → Nat → EV
 | [], _ => .junk
 | (j, v) :: r, k => if j = k then v else Fr.get r k
def Fr.put (fr : Fr) (d : Option Nat) (v : EV) : Fr := match d with
 | some k => (k, v) :: fr
 | none => fr
inductive X where
 | t (n : Nat)
 | v (e : EV)
 deriving Inhabited
def X.ev (fr : Fr) : X → EV
 | .t n => fr.get n
 | .v e => e
inductive CK where
 | int | bool | str
 deriving Inhabited, DecidableEq
inductive EK where
 | none | bool | cells (ks : List CK) | ptr | fn | map
 deriving Inhabited
inductive DOp where
 | mv (x : X)
 | nils (sz : Nat) (ag : Bool)
 | pick (c a b : X)
 | nz (x : X)
 | new (ag : Bool) (zs : List EV)
 | box (ag : Bool) (n : Nat) (x : X)
 | build (zs : List EV) (parts : List (Nat × Nat × X))
 | lit (sz : Nat) (ag : Bool) (els : List (List EV)) (parts : List (Nat × X))
 | ld (ag : Bool) (n : Nat) (x : X)
 | st (n : Nat) (x v : X)
 | bin (op : BinOp) (ek : EK) (x y : X)
 | isnil (ne : Bool) (x : X)
 | un (op : UnOp) (x : X)
 | conv (k : IntKind) (x : X)
 | mkf (f : Fn) (first captured : List X)
 | mkmap
 | mks (sz : Nat) (ag : Bool) (bytes : Nat) (z : List EV) (len cap : X)
 | slc (sz : Nat) (x : X) (lo hi mx : Option X)
 | sla (n sz : Nat) (x : X) (lo hi : Option X)
 | sls (x : X) (lo hi : Option X)
 | fld (off : Nat) (x : X)
 | fget (off n : Nat) (ag : Bool) (x : X)
 | ixa (sz : Nat) (x i : X)
 | ixp (len sz : Nat) (x i : X)
 | ixs (x i : X)
 | ixg (len sz : Nat) (ag : Bool) (x i : X)
 | look (ck : CK) (z : EV) (ok : Bool) (m k : X)
 | upd (ck : CK) (m k v : X)
 | del (ck : CK) (m k : X)
 | ext (x : X) (i : Nat)
 | len (k : Nat) (x : X)
 | cap (x : X)
 | app (sz : Nat) (ag : Bool) (bytes : Nat) (s x : X)
 | appz (sz : Nat) (ag : Bool) (bytes : Nat) (z : List EV) (s n : X)
 | mnx (max : Bool) (x y : X)
 | call (f : Nat) (args : List X)
 | callv (x : X) (args : List X)
 | mki (t : Nat) (x : X)
 | asr (t : Nat) (z : EV) (x : X)
 | byts (x : X)
 | fnb (x y : X)
 | fnd (m : Int) (x y : X)
 | may (x : X) (args : List X)
 | mnth (m i : X)
 | strb (x : X)
 | nbld
 | bwr (x s : X)
 | bstr (x : X)
 deriving Inhabited
abbrev Chk := Nat × DOp × Option (Nat × Bool)
structure Step where
 dst : Option Nat
 op : DOp
 guard : Option (Nat × Bool) := none
 chk : List Chk := []
 deriving Inhabited
inductive Ex where
 | normal
 | exit (id : Nat)
 | ret
 deriving Inhabited, DecidableEq
inductive DC where
 | skip
 | ops (l : List Step)
 | seq (a b : DC)
 | cond (x : X) (a b : DC)
 | block (id : Nat) (c : DC)
 | loop (keep : List Nat) (c : DC)
 | exit (id : Nat)
 | ret
 | range (ps keep : List Nat) (x : X) (a b : DC)
 deriving Inhabited
inductive LSt where
 | ready
 | busy
 | done (e : Ex)
 | over
 deriving Inhabited
structure LoopO where
 ps : List Nat
 a : DC
 b : DC
 fr : Fr
 st : LSt
 deriving Inhabited
inductive Obj where
 | cells (a : Arr)
 | map (es : List (PD × EV))
 | loop (l : LoopO)
 | bld (s : Option ByteArray)
 deriving Inhabited
structure Hp where
 objs : List Obj
 lim : Nat
 deriving Inhabited
def Hp.arr (h : Hp) (id gen : Nat) : Option Arr :=
 match h.objs[id]? with
 | some (.cells a) => if a.gen = gen then some a else none
 | _ => none
def Hp.setArr (h : Hp) (id : Nat) (a : Arr) : Hp := { h with objs := h.objs.set id (.cells a) }
def Hp.new (h : Hp) (o : Obj) : Hp := { h with objs := h.objs ++ [o] }
inductive Res where
 | tmp (t : Nat)
 | cell (t : Nat) (ag : Bool) (n : Nat)
 deriving Inhabited
structure DFn where
 np : Nat
 body : DC
 res : List Res
 share : Bool
 loc : Bool
 sha : Bool
 deriving Inhabited
mutual
def shareC (lim : Nat) : Nat → EV → List Obj → Option (PD × List Obj)
 | _, .p x, os => some (x, os)
 | _, .full xs, os => some (.list xs, os)
 | n + 1, .arr id g sz off len _, os =>
  match os[id]? with
  | some (.cells a) =>
   if a.gen = g ∧ a.sz = sz ∧ off + len ≤ a.els.length ∧ lim ≤ id then
    match shareEls lim n a.ag ((a.els.drop off).take len) os with
    | some (ps, os') => match os'[id]? with
     | some (.cells a') => some (.list ps, os'.set id (.cells { a' with frz := max a'.frz (off + len) }))
     | _ => none
    | none => none
   else none
  | _ => none
 | _, _, _ => none
def shareEls (lim : Nat) : Nat → Bool → List (List EV) → List Obj → Option (List PD × List Obj)
 | _, _, [], os => some ([], os)
 | n, ag, el :: r, os =>
  match shareCs lim n el os with
  | some (cs, os') =>
   match (if ag then some (PD.agg cs) else match cs with | [c] => some c | _ => none) with
   | some x => match shareEls lim n ag r os' with
    | some (xs, os'') => some (x :: xs, os'')
    | none => none
   | none => none
  | none => none
def shareCs (lim : Nat) : Nat → List EV → List Obj → Option (List PD × List Obj)
 | _, [], os => some ([], os)
 | n, e :: r, os =>
  match shareC lim n e os with
  | some (x, os') => match shareCs lim n r os' with
   | some (xs, os'') => some (x :: xs, os'')
   | none => none
  | none => none
end
end Dk
namespace Dk
open Go
abbrev CallFn := Nat → List EV → Hp → Option (EV × Hp)
def yieldNo : Nat := 1000000007
def rndVs (id : Nat) (as : List EV) : List EV := .p (.agg []) :: .yld id :: as
def intBin (op : BinOp) (k : IntKind) (a b : Int) : Option PD :=
 match op with
 | .add => some (.int k (k.wrap (a + b)))
 | .sub => some (.int k (k.wrap (a - b)))
 | .mul => some (.int k (k.wrap (a * b)))
 | .quo => if b = 0 then none else some (.int k (k.wrap (a.tdiv b)))
 | .rem => if b = 0 then none else some (.int k (a.tmod b))
 | .and => some (.int k (k.wrap ((BitVec.ofInt k.bits a &&& BitVec.ofInt k.bits b).toNat)))
 | .or => some (.int k (k.wrap ((BitVec.ofInt k.bits a ||| BitVec.ofInt k.bits b).toNat)))
 | .xor => some (.int k (k.wrap ((BitVec.ofInt k.bits a ^^^ BitVec.ofInt k.bits b).toNat)))
 | .andNot => some (.int k (k.wrap ((BitVec.ofInt k.bits a &&& ~~~ BitVec.ofInt k.bits b).toNat)))
 | .eql => some (.bool (a == b))
 | .neq => some (.bool (a != b))
 | .lss => some (.bool (a < b))
 | .leq => some (.bool (a ≤ b))
 | .gtr => some (.bool (a > b))
 | .geq => some (.bool (a ≥ b))
 | _ => none
def intShift (op : BinOp) (k : IntKind) (a b : Int) : Option PD :=
 if b < 0 then none else match op with
 | .shl => some (.int k (k.wrap (a * 2 ^ (min b.toNat k.bits))))
 | .shr => some (.int k (a.fdiv (2 ^ (min b.toNat k.bits))))
 | _ => none
def strBin (op : BinOp) (a b : ByteArray) : Option PD :=
 match op with
 | .add => if a.size + b.size < 4294967296 then some (.str (a ++ b)) else none
 | .eql => some (.bool (a.toList == b.toList))
 | .neq => some (.bool (!(a.toList == b.toList)))
 | .lss => some (.bool (Op.bytesLess a.toList b.toList))
 | .leq => some (.bool (Op.bytesLess a.toList b.toList || a.toList == b.toList))
 | .gtr => some (.bool (!(Op.bytesLess a.toList b.toList || a.toList == b.toList)))
 | .geq => some (.bool (!(Op.bytesLess a.toList b.toList)))
 | _ => none
def cellEq : CK → EV → EV → Option Bool
 | .int, .p (.int j a), .p (.int k b) => if j = k then some (a == b) else none
 | .bool, .p (.bool a), .p (.bool b) => some (a == b)
 | .str, .p (.str a), .p (.str b) => some (a.toList == b.toList)
 | _, _, _ => none
def cellsEq : List CK → List EV → List EV → Option Bool
 | [], [], [] => some true
 | c :: cs, a :: r, b :: s => match cellEq c a b with
  | some x => match cellsEq cs r s with
   | some y => some (x && y)
   | none => none
  | none => none
 | _, _, _ => none
def evEq : EK → EV → EV → Option Bool
 | .bool, .p (.bool a), .p (.bool b) => some (a == b)
 | .cells ks, .agg a, .agg b => cellsEq ks a b
 | .ptr, .nilp, .nilp => some true
 | .ptr, .nilp, .ptr .. => some false
 | .ptr, .ptr .., .nilp => some false
 | .ptr, .nilp, .cp .. => some false
 | .ptr, .cp .., .nilp => some false
 | .fn, .nilf, .nilf => some true
 | .fn, .nilf, .fn .. => some false
 | .fn, .fn .., .nilf => some false
 | .map, .nilmap, .nilmap => some true
 | .map, .nilmap, .map _ => some false
 | .map, .map _, .nilmap => some false
 | _, _, _ => none
def binOp (op : BinOp) (ek : EK) (x y : EV) : Option EV :=
 match x, y with
 | .p (.int k a), .p (.int k' b) =>
  match op with
  | .shl | .shr => (intShift op k a b).map .p
  | _ => if k = k' then (intBin op k a b).map .p else none
 | .p (.str a), .p (.str b) => (strBin op a b).map .p
 | x, y => match op with
  | .eql => (evEq ek x y).map fun b => .p (.bool b)
  | .neq => (evEq ek x y).map fun b => .p (.bool (!b))
  | _ => none
def unOp (op : UnOp) (x : EV) : Option EV :=
 match op, x with
 | .neg, .p (.int k n) => some (.p (.int k (k.wrap (0 - n))))
 | .not, .p (.bool b) => some (.p (.bool (!b)))
 | _, _ => none
def ones (l : List EV) : Bool := l.all EV.one
def lay : List EV → List (Nat × Nat × EV) → Option (List EV)
 | cs, [] => some cs
 | cs, (off, n, v) :: r =>
  if v.cells.length = n ∧ off + n ≤ cs.length ∧ ones v.cells = true then lay (cs.take off ++ v.cells ++ cs.drop (off + n)) r else none
def layEls (sz : Nat) : List (List EV) → List (Nat × EV) → Option (List (List EV))
 | els, [] => some els
 | els, (i, v) :: r => if v.cells.length = sz ∧ i < els.length ∧ ones v.cells = true then layEls sz (els.set i v.cells) r else none
def idx (i : EV) (n : Nat) : Option Nat :=
 match i with
 | .p (.int _ k) => if 0 ≤ k ∧ k < n then some k.toNat else none
 | _ => none
def bound (i : EV) (n : Nat) : Option Nat :=
 match i with
 | .p (.int _ k) => if 0 ≤ k ∧ k ≤ n then some k.toNat else none
 | _ => none
def loadAt (ag : Bool) (n : Nat) (x : EV) (h : Hp) : Option EV :=
 match x with
 | .ptr id g i o => match h.arr id g with
  | some a => match a.els[i]? with
   | some el => if o + n ≤ el.length then mk ag ((el.drop o).take n) else none
   | none => none
  | none => none
 | .cp cs o => if o + n ≤ cs.length then mk ag (((cs.drop o).take n).map .p) else none
 | _ => none
def storeAt (n : Nat) (x v : EV) (h : Hp) : Option Hp :=
 match x with
 | .ptr id g i o => match h.arr id g with
  | some a => match a.els[i]? with
   | some el =>
    if o + n ≤ el.length ∧ v.cells.length = n ∧ a.frz ≤ i ∧ ones v.cells = true ∧ h.lim ≤ id then
     some (h.setArr id { a with els := a.els.set i (el.take o ++ v.cells ++ el.drop (o + n)) })
    else none
   | none => none
  | none => none
 | _ => none
def sliceEls (xs : List PD) (lo hi : Nat) : List PD := (xs.drop lo).take (hi - lo)
def upper (n : Nat) : Option EV → Option Nat
 | none => some n
 | some v => bound v n
def lower (h : Nat) : Option EV → Option Nat
 | none => some 0
 | some v => bound v h
def bounds (n : Nat) (lo hi mx : Option EV) : Option (Nat × Nat) :=
 match upper n hi with
 | none => none
 | some h => match lower h lo with
  | none => none
  | some l => match mx with
   | none => some (l, h)
   | some m => if bound m n = some h ∧ hi.isSome then some (l, h) else none
def sized (sz : Nat) (xs : List PD) : Bool := xs.all fun e => e.cells.length == sz
def sliceOf (sz : Nat) (x : EV) (lo hi mx : Option EV) : Option EV :=
 match x with
 | .p (.list xs) => if sized sz xs then match bounds xs.length lo hi mx with
  | some (l, h) => some (if mx.isSome then .full (sliceEls xs l h) else .p (.list (sliceEls xs l h)))
  | none => none
  else none
 | .full xs => if sized sz xs then match bounds xs.length lo hi mx with
  | some (l, h) => some (if mx.isSome || decide (h = xs.length) then .full (sliceEls xs l h) else .p (.list (sliceEls xs l h)))
  | none => none
  else none
 | .arr id g s off len f => if s = sz then match bounds len lo hi mx with
  | some (l, h) => some (if mx.isSome ∧ l = h then .full [] else .arr id g s (off + l) (h - l) (mx.isSome || (f && decide (h = len))))
  | none => none
  else none
 | _ => none
def sliceStr (x : EV) (lo hi : Option EV) : Option EV :=
 match x with
 | .p (.str s) => match bounds s.size lo hi none with
  | some (l, h) => some (.p (.str (s.extract l h)))
  | none => none
 | _ => none
def indexAddr (sz : Nat) (x i : EV) : Option EV :=
 match x with
 | .p (.list xs) => match idx i xs.length with
  | some k => match xs[k]? with
   | some e => if e.cells.length = sz then some (.cp e.cells 0) else none
   | none => none
  | none => none
 | .full xs => match idx i xs.length with
  | some k => match xs[k]? with
   | some e => if e.cells.length = sz then some (.cp e.cells 0) else none
   | none => none
  | none => none
 | .arr id g s off len _ => if s = sz then match idx i len with
  | some k => some (.ptr id g (off + k) 0)
  | none => none
  else none
 | .sub id g j o s len => if s = sz then match idx i len with
  | some k => some (.ptr id g j (o + k * sz))
  | none => none
  else none
 | _ => none
def PD.scal : PD → Bool
 | .agg _ => false
 | _ => true
def sliceArr (n sz : Nat) (x : EV) (lo hi : Option EV) : Option EV :=
 match x with
 | .ptr id g j o => match bounds n lo hi none with
  | some (l, h) => some (.sub id g j (o + l * sz) sz (h - l))
  | none => none
 | .cp cs o => match lo, hi with
  | none, none => if sz = 1 ∧ o + n ≤ cs.length ∧ cs.all PD.scal = true then some (.full ((cs.drop o).take n)) else none
  | _, _ => none
 | _ => none
def elsOf (sz : Nat) (x : EV) (h : Hp) : Option (List (List EV)) :=
 match x with
 | .p (.list xs) => if sized sz xs then some (xs.map toEV) else none
 | .full xs => if sized sz xs then some (xs.map toEV) else none
 | .arr id g s off len _ => match h.arr id g with
  | some a => if s = sz ∧ a.sz = sz ∧ off + len ≤ a.els.length then some ((a.els.drop off).take len) else none
  | none => none
 | _ => none
def subEls (sz : Nat) (x : EV) (h : Hp) : Option (List (List EV)) :=
 match x with
 | .sub id g j o s len => match h.arr id g with
  | some a => match a.els[j]? with
   | some el => if s = sz ∧ o + len * sz ≤ el.length then some ((List.range len).map fun i => (el.drop (o + i * sz)).take sz) else none
   | none => none
  | none => none
 | _ => none
@[simp] def elsX (sz : Nat) (x : EV) (h : Hp) : Option (List (List EV)) := match elsOf sz x h with
 | some ys => some ys
 | none => subEls sz x h
def bytes1 : List (List EV) → ByteArray → Option ByteArray
 | [], s => some s
 | el :: r, s => match el with
  | [.p (.int .u8 n)] => bytes1 r (s.push (UInt8.ofNat n.toNat))
  | _ => none
def textOf (v : EV) (h : Hp) : Option ByteArray := match elsOf 1 v h with
 | some els => bytes1 els .empty
 | none => none
def appendTo (sz : Nat) (ag : Bool) (bytes : Nat) (s x : EV) (h : Hp) : Option (EV × Hp) :=
 match elsX sz x h with
 | none => none
 | some ys =>
  match s with
  | .p (.list xs) => if ys.isEmpty then some (s, h) else none
  | .full xs =>
   if ys.isEmpty then some (s, h) else
   if sized sz xs = true ∧ (xs.length + ys.length) * bytes ≤ 140737488355328 then
    some (.arr h.objs.length 0 sz 0 (xs.length + ys.length) false, h.new (.cells ⟨0, sz, ag, 0, xs.map toEV ++ ys⟩))
   else none
  | .arr id g s off len f => match h.arr id g with
   | some a =>
    if s = sz ∧ a.sz = sz ∧ a.ag = ag ∧ off + len ≤ a.els.length ∧ (len + ys.length) * bytes ≤ 140737488355328 then
     if ys.isEmpty then some (.arr id g s off len f, h)
     else if f then
      some (.arr h.objs.length 0 sz 0 (len + ys.length) false, h.new (.cells ⟨0, sz, ag, 0, (a.els.drop off).take len ++ ys⟩))
     else if a.frz ≤ off + len ∧ h.lim ≤ id then
      some (.arr id (g + 1) sz 0 (len + ys.length) false, h.setArr id ⟨g + 1, sz, ag, a.frz - off, (a.els.drop off).take len ++ ys⟩)
     else none
    else none
   | none => none
  | _ => none
def appendEls (sz : Nat) (ag : Bool) (bytes : Nat) (s : EV) (ys : List (List EV)) (h : Hp) : Option (EV × Hp) :=
 match s with
 | .p (.list xs) => if ys.isEmpty then some (s, h) else none
 | .full xs =>
  if ys.isEmpty then some (s, h) else
  if sized sz xs = true ∧ (xs.length + ys.length) * bytes ≤ 140737488355328 then
   some (.arr h.objs.length 0 sz 0 (xs.length + ys.length) false, h.new (.cells ⟨0, sz, ag, 0, xs.map toEV ++ ys⟩))
  else none
 | .arr id g s off len f => match h.arr id g with
  | some a =>
   if s = sz ∧ a.sz = sz ∧ a.ag = ag ∧ off + len ≤ a.els.length ∧ (len + ys.length) * bytes ≤ 140737488355328 then
    if ys.isEmpty then some (.arr id g s off len f, h)
    else if f then
     some (.arr h.objs.length 0 sz 0 (len + ys.length) false, h.new (.cells ⟨0, sz, ag, 0, (a.els.drop off).take len ++ ys⟩))
    else if a.frz ≤ off + len ∧ h.lim ≤ id then
     some (.arr id (g + 1) sz 0 (len + ys.length) false, h.setArr id ⟨g + 1, sz, ag, a.frz - off, (a.els.drop off).take len ++ ys⟩)
    else none
   else none
  | none => none
 | _ => none
theorem appendTo_eq (sz : Nat) (ag : Bool) (bytes : Nat) (s x : EV) (h : Hp) : appendTo sz ag bytes s x h = match elsX sz x h with
 | none => none
 | some ys => appendEls sz ag bytes s ys h := by
 unfold appendTo appendEls; rfl
def appendZ (sz : Nat) (ag : Bool) (bytes : Nat) (z : List EV) (s n : EV) (h : Hp) : Option (EV × Hp) :=
 match n with
 | .p (.int .i64 k) => if 0 ≤ k then appendEls sz ag bytes s (List.replicate k.toNat z) h else none
 | _ => none
def PD.alike : CK → PD → PD → Bool
 | .int, .int j _, .int k _ => decide (j = k)
 | .str, .str _, .str _ => true
 | .bool, .bool _, .bool _ => true
 | _, _, _ => false
def findKey (k : PD) : List (PD × EV) → Option EV
 | [] => none
 | (x, v) :: r => if PD.eqb k x then some v else findKey k r
def setKey (k : PD) (v : EV) : List (PD × EV) → List (PD × EV)
 | [] => [(k, v)]
 | (x, u) :: r => if PD.eqb k x then (x, v) :: r else (x, u) :: setKey k v r
def delKey (k : PD) : List (PD × EV) → List (PD × EV)
 | [] => []
 | (x, u) :: r => if PD.eqb k x then r else (x, u) :: delKey k r
def Hp.mapOf (h : Hp) (id : Nat) : Option (List (PD × EV)) :=
 match h.objs[id]? with
 | some (.map es) => some es
 | _ => none
def mapGet (ck : CK) (z : EV) (m k : EV) (h : Hp) : Option (EV × Bool) :=
 match k with
 | .p k => if PD.alike ck k k = true then match m with
  | .nilmap => some (z, false)
  | .map id => match h.mapOf id with
   | some es => if es.all (fun e => PD.alike ck k e.1) = true then match findKey k es with
    | some v => some (v, true)
    | none => some (z, false)
    else none
   | none => none
  | _ => none
  else none
 | _ => none
def mapSet (ck : CK) (m k v : EV) (h : Hp) : Option Hp :=
 match k, m with
 | .p k, .map id => if PD.alike ck k k = true then match h.mapOf id with
  | some es => if es.all (fun e => PD.alike ck k e.1) = true ∧ h.lim ≤ id then some { h with objs := h.objs.set id (.map (setKey k v es)) } else none
  | none => none
  else none
 | _, _ => none
def mapDel (ck : CK) (m k : EV) (h : Hp) : Option Hp :=
 match k, m with
 | .p k, .map id => if PD.alike ck k k = true then match h.mapOf id with
  | some es => if es.all (fun e => PD.alike ck k e.1) = true ∧ h.lim ≤ id then some { h with objs := h.objs.set id (.map (delKey k es)) } else none
  | none => none
  else none
 | .p k, .nilmap => if PD.alike ck k k = true then some h else none
 | _, _ => none
def lenOf (kd : Nat) (x : EV) (h : Hp) : Option Nat :=
 match kd, x with
 | 0, .p (.list xs) => some xs.length
 | 0, .full xs => some xs.length
 | 0, .arr _ _ _ _ n _ => some n
 | 0, .sub _ _ _ _ _ n => some n
 | 1, .p (.str s) => some s.size
 | 2, .nilmap => some 0
 | 2, .map id => match h.mapOf id with
  | some es => some es.length
  | none => none
 | _, _ => none
def someIn : EV → Bool
 | .p (.list (_ :: _)) => true
 | .full (_ :: _) => true
 | .arr _ _ _ _ n _ => decide (0 < n)
 | _ => false
def evs (fr : Fr) (l : List X) : List EV := l.map (X.ev fr)
def fldAt (off : Nat) (x : EV) : Option EV :=
 match x with
 | .ptr id g i o => some (.ptr id g i (o + off))
 | .cp cs o => some (.cp cs (o + off))
 | _ => none
def fgetAt (off n : Nat) (ag : Bool) (x : EV) : Option EV :=
 match x with
 | .agg cs => if off + n ≤ cs.length then mk ag ((cs.drop off).take n) else none
 | _ => none
def ixpAt (len sz : Nat) (x i : EV) : Option EV :=
 match idx i len, x with
 | some k, .ptr id g j o => some (.ptr id g j (o + k * sz))
 | some k, .cp cs o => some (.cp cs (o + k * sz))
 | _, _ => none
def look (op : DOp) (fr : Fr) (h : Hp) : Option EV :=
 match op with
 | .mv x => some (x.ev fr)
 | .pick c a b => match c.ev fr with
  | .p (.bool t) => some (if t then a.ev fr else b.ev fr)
  | _ => none
 | .nz x => match x.ev fr with
  | .ptr id g i o => some (.ptr id g i o)
  | .cp cs o => some (.cp cs o)
  | .fn (.func f) a b => some (.fn (.func f) a b)
  | _ => none
 | .build zs parts => (lay zs (parts.map fun (o, n, x) => (o, n, x.ev fr))).map .agg
 | .ld ag n x => loadAt ag n (x.ev fr) h
 | .bin op ek x y => binOp op ek (x.ev fr) (y.ev fr)
 | .isnil ne x => if someIn (x.ev fr) then some (.p (.bool ne)) else none
 | .un op x => unOp op (x.ev fr)
 | .conv k x => match x.ev fr with
  | .p (.int _ n) => some (.p (.int k (k.wrap n)))
  | _ => none
 | .mkf f a b => some (.fn f (evs fr a) (evs fr b))
 | .slc sz x lo hi mx => sliceOf sz (x.ev fr) (lo.map (X.ev fr)) (hi.map (X.ev fr)) (mx.map (X.ev fr))
 | .sla n sz x lo hi => sliceArr n sz (x.ev fr) (lo.map (X.ev fr)) (hi.map (X.ev fr))
 | .sls x lo hi => sliceStr (x.ev fr) (lo.map (X.ev fr)) (hi.map (X.ev fr))
 | .fld off x => fldAt off (x.ev fr)
 | .fget off n ag x => fgetAt off n ag (x.ev fr)
 | .ixa sz x i => indexAddr sz (x.ev fr) (i.ev fr)
 | .ixp len sz x i => ixpAt len sz (x.ev fr) (i.ev fr)
 | .ixs x i => match x.ev fr with
  | .p (.str s) => match idx (i.ev fr) s.size with
   | some k => match s[k]? with
    | some b => some (.p (.int .u8 b.toNat))
    | none => none
   | none => none
  | _ => none
 | .ixg len sz ag x i => match idx (i.ev fr) len, x.ev fr with
  | some k, .agg cs => if k * sz + sz ≤ cs.length then mk ag ((cs.drop (k * sz)).take sz) else none
  | _, _ => none
 | .look ck z ok m k => match mapGet ck z (m.ev fr) (k.ev fr) h with
  | some (v, b) => some (if ok then .tup [v, .p (.bool b)] else v)
  | none => none
 | .ext x i => match x.ev fr with
  | .tup vs => vs[i]?
  | _ => none
 | .len kd x => (lenOf kd (x.ev fr) h).map fun n => .p (.int .i64 n)
 | .cap x => match x.ev fr with
  | .full xs => some (.p (.int .i64 xs.length))
  | _ => none
 | .fnb x y => match x.ev fr, y.ev fr with
  | .p (.str s), .p (.int .u8 c) => some (.p (.int .i64 (idxB c.toNat.toUInt8 s.data.toList 0)))
  | _, _ => none
 | .fnd m x y => match x.ev fr, y.ev fr with
  | .p (.str a), .p (.str b) => if Nat.ble 2 b.size = true ∧ sizeLe b.size m = true ∧ Nat.ble a.size 4294967280 = true then some (.p (.int .i64 (idxL b.data.toList a.data.toList 0))) else none
  | _, _ => none
 | .mki t x => some (.iface t (x.ev fr))
 | .asr t z x => match x.ev fr with
  | .nili => some (.tup [z, .p (.bool false)])
  | .iface u v => if u = t then some (.tup [v, .p (.bool true)]) else some (.tup [z, .p (.bool false)])
  | _ => none
 | .mnx max x y => match x.ev fr, y.ev fr with
  | .p (.int k a), .p (.int _ b) => some (.p (.int k (if max then (if b > a then b else a) else (if b < a then b else a))))
  | _, _ => none
 | _ => none
def makeObj (op : DOp) (fr : Fr) : Option ((Nat → EV) × Obj) :=
 match op with
 | .nils sz ag => some (fun id => .arr id 0 sz 0 0 false, .cells ⟨0, sz, ag, 0, []⟩)
 | .new ag zs => some (fun id => .ptr id 0 0 0, .cells ⟨0, zs.length, ag, 0, [zs]⟩)
 | .box ag n x => if (x.ev fr).cells.length = n ∧ ones (x.ev fr).cells = true then some (fun id => .ptr id 0 0 0, .cells ⟨0, n, ag, 0, [(x.ev fr).cells]⟩) else none
 | .lit sz ag els parts => match layEls sz els (parts.map fun (i, x) => (i, x.ev fr)) with
  | some els => some (fun id => .arr id 0 sz 0 els.length true, .cells ⟨0, sz, ag, 0, els⟩)
  | none => none
 | .mkmap => some (fun id => .map id, .map [])
 | .nbld => some (fun id => .bld id, .bld (some .empty))
 | .mks sz ag bytes z len cap => match len.ev fr, cap.ev fr with
  | .p (.int .i64 n), .p (.int .i64 c) => if 0 ≤ n ∧ n ≤ c ∧ c * bytes ≤ 140737488355328 ∧ c < 9223372036854775808 then
   some (fun id => .arr id 0 sz 0 n.toNat false, .cells ⟨0, sz, ag, 0, List.replicate n.toNat z⟩) else none
  | _, _ => none
 | _ => none
def make (op : DOp) (fr : Fr) (h : Hp) : Option (EV × Hp) :=
 match makeObj op fr with
 | some (f, o) => some (f h.objs.length, h.new o)
 | none => none
def mayNo : Nat := 10000
def pagm : EV := .p (.agg [.bool true])
def panNo : Nat := 13000
def pagp : EV := .p (.agg [.bool false])
def deepPD : List PD → Option Int
 | [] => some 0
 | .agg [_, .list rs] :: l => (deepPD l).map fun n => (rs.length : Int) + n
 | _ => none
def deepOf (v : EV) (h : Hp) : Option Int :=
 match fldAt 0 v with
 | some p => match loadAt false 1 p h with
  | some s => match shareC h.lim 8 s h.objs with
   | some (.list ps, _) => if ps.length < 4611686018427387904 then deepPD ps else none
   | _ => none
  | none => none
 | none => none
def cntOf (k : Int) (v : EV) (h : Hp) : Option Int :=
 if 0 ≤ k then match fldAt k.toNat v with
  | some p => match loadAt false 1 p h with
   | some s => match lenOf 0 s h with
    | some n => some (n : Int)
    | none => none
   | none => none
  | none => none
 else deepOf v h
def sumEs (k : Int) (h : Hp) : List (PD × EV) → Option Int
 | [] => some 0
 | (_, v) :: r => match cntOf k v h, sumEs k h r with
  | some a, some b => some (a + b)
  | _, _ => none
def mapNth (m i : EV) (h : Hp) : Option EV :=
 match i with
 | .p (.int .i64 k) => match m with
  | .map id => match h.mapOf id with
   | some es => match sumEs k h es with
    | some n => some (.p (.int .i64 (IntKind.i64.wrap n)))
    | none => none
   | none => none
  | .nilmap => some (.p (.int .i64 0))
  | _ => none
 | _ => none
def bytesOf (s : ByteArray) : List PD := s.data.toList.map fun b => .int .u8 b.toNat
def bwrite (x s : EV) (h : Hp) : Option (EV × Hp) :=
 match x, s with
 | .bld id, .p (.str t) => match h.objs[id]? with
  | some (.bld (some b)) => if b.size + t.size ≤ 140737488355328 ∧ h.lim ≤ id then some (.tup [.p (.int .i64 t.size), .nili], { h with objs := h.objs.set id (.bld (some (b ++ t))) }) else none
  | _ => none
 | _, _ => none
def btext (x : EV) (h : Hp) : Option (EV × Hp) :=
 match x with
 | .bld id => match h.objs[id]? with
  | some (.bld (some b)) => if b.size ≠ 0 ∧ h.lim ≤ id then some (.p (.str b), { h with objs := h.objs.set id (.bld none) }) else none
  | _ => none
 | _ => none
def act (C : CallFn) (op : DOp) (fr : Fr) (h : Hp) : Option (EV × Hp) :=
 match op with
 | .st n x v => (storeAt n (x.ev fr) (v.ev fr) h).map fun h' => (.junk, h')
 | .upd ck m k v => (mapSet ck (m.ev fr) (k.ev fr) (v.ev fr) h).map fun h' => (.junk, h')
 | .del ck m k => (mapDel ck (m.ev fr) (k.ev fr) h).map fun h' => (.tup [], h')
 | .app sz ag bytes s x => appendTo sz ag bytes (s.ev fr) (x.ev fr) h
 | .appz sz ag bytes z s n => appendZ sz ag bytes z (s.ev fr) (n.ev fr) h
 | .byts x => match x.ev fr with
  | .p (.str s) => some (.p (.list (bytesOf s)), h)
  | _ => none
 | .mnth m i => match mapNth (m.ev fr) (i.ev fr) h with
  | some v => some (v, h)
  | none => none
 | .strb x => match textOf (x.ev fr) h with
  | some s => some (.p (.str s), h)
  | none => none
 | .bwr x s => bwrite (x.ev fr) (s.ev fr) h
 | .bstr x => btext (x.ev fr) h
 | .call f args => C f (evs fr args) h
 | .may x args => match x.ev fr with
  | .fn (.func f) a b => C (mayNo + f) (a ++ evs fr args ++ b ++ [pagm]) h
  | _ => none
 | .callv x args => match x.ev fr with
  | .fn (.func f) a b => C f (a ++ evs fr args ++ b) h
  | .yld id => C yieldNo (rndVs id (evs fr args)) h
  | _ => none
 | _ => none
def DOp.kind : DOp → Nat
 | .nils .. | .new .. | .box .. | .lit .. | .mkmap | .mks .. | .nbld => 1
 | .st .. | .upd .. | .del .. | .app .. | .appz .. | .call .. | .callv .. | .byts .. | .may .. | .mnth .. | .strb .. | .bwr .. | .bstr .. => 2
 | _ => 0
def runOp (C : CallFn) (op : DOp) (fr : Fr) (h : Hp) : Option (EV × Hp) :=
 match op.kind with
 | 0 => (look op fr h).map fun v => (v, h)
 | 1 => make op fr h
 | _ => act C op fr h
def guardVal (v : EV) (want : Bool) : Option Bool :=
 match v with
 | .p (.bool b) => some (b == want)
 | .tup [] => some false
 | _ => none
def still (fr : Fr) (h : Hp) : List Chk → Bool
 | [] => true
 | (d, op, gd) :: r => ((match gd with
  | some (g, want) => match guardVal (fr.get g) want with
   | some b => !b
   | none => false
  | none => false) || (match look op fr h with
  | some v => EV.eqb v (fr.get d)
  | none => false)) && still fr h r
def runStep (C : CallFn) (s : Step) (fr : Fr) (h : Hp) : Option (Fr × Hp) :=
 let go : Option (Fr × Hp) := match runOp C s.op fr h with
  | some (v, h') => if still fr h' s.chk then some (fr.put s.dst v, h') else none
  | none => none
 match s.guard with
 | none => go
 | some (g, want) => match guardVal (fr.get g) want with
  | some true => go
  | some false => some (fr.put s.dst (.tup []), h)
  | none => none
def runSteps (C : CallFn) : List Step → Fr → Hp → Option (Fr × Hp)
 | [], fr, h => some (fr, h)
 | s :: r, fr, h => match runStep C s fr h with
  | some (fr', h') => runSteps C r fr' h'
  | none => none
abbrev St := Fr × Hp
abbrev Out := Ex × Fr × Hp
def roundsN (f : St → Option Out) (keep : List Nat) : Nat → St → Option Out
 | 0, _ => none
 | n + 1, s => match f (keep.map fun k => (k, s.1.get k), s.2) with
  | some (.normal, fr, h) => roundsN f keep n (fr, h)
  | o => o
open Classical in
noncomputable def rounds (f : St → Option Out) (keep : List Nat) (s : St) : Option Out :=
 if h : ∃ n o, roundsN f keep n s = some o then roundsN f keep h.choose s else none
def loopEnd : LSt → Option Ex
 | .ready => some .normal
 | .done e => some e
 | _ => none
noncomputable def exec (C : CallFn) : DC → St → Option Out
 | .skip, s => some (.normal, s.1, s.2)
 | .ops l, s => match runSteps C l s.1 s.2 with
  | some (fr, h) => some (.normal, fr, h)
  | none => none
 | .seq a b, s => match exec C a s with
  | some (.normal, fr, h) => exec C b (fr, h)
  | o => o
 | .cond x a b, s => match x.ev s.1 with
  | .p (.bool t) => if t then exec C a s else exec C b s
  | _ => none
 | .block id c, s => match exec C c s with
  | some (.exit i, fr, h) => if i = id then some (.normal, fr, h) else some (.exit i, fr, h)
  | o => o
 | .loop keep c, s => rounds (exec C c) keep s
 | .exit id, s => some (.exit id, s.1, s.2)
 | .ret, s => some (.ret, s.1, s.2)
 | .range ps keep x a b, s => match x.ev s.1 with
  | .fn (.func f) u v => match C f (u ++ [.yld s.2.objs.length] ++ v) (s.2.new (.loop ⟨ps, a, b, keep.map fun k => (k, s.1.get k), .ready⟩)) with
   | some (_, h) => match h.objs[s.2.objs.length]? with
    | some (.loop l) => match loopEnd l.st with
     | some e => some (e, s.1, { h with objs := h.objs.set s.2.objs.length (.loop { l with st := .over }) })
     | none => none
    | _ => none
   | none => none
  | _ => none
def args0 : Nat → List EV → Fr
 | _, [] => []
 | k, v :: r => (k, v) :: args0 (k + 1) r
def resultOf (fr : Fr) (h : Hp) : Res → Option EV
 | .tmp t => some (fr.get t)
 | .cell t ag n => loadAt ag n (fr.get t) h
def resultsOf (fr : Fr) (h : Hp) : List Res → Option (List EV)
 | [] => some []
 | r :: rs => match resultOf fr h r with
  | some v => match resultsOf fr h rs with
   | some vs => some (v :: vs)
   | none => none
  | none => none
def fullV (f : Bool) (x : PD) : EV := match f, x with
 | true, .list xs => .full xs
 | _, x => .p x
mutual
def shareV (lim : Nat) : EV → List Obj → Option (EV × List Obj)
 | .arr id g sz off len f, os => (shareC lim 8 (.arr id g sz off len f) os).map fun (x, os) => (fullV f x, os)
 | .full xs, os => some (.p (.list xs), os)
 | .agg cs, os => (shareVs lim cs os).map fun (x, os) => (.agg x, os)
 | v, os => some (v, os)
def shareVs (lim : Nat) : List EV → List Obj → Option (List EV × List Obj)
 | [], os => some ([], os)
 | v :: r, os => match shareV lim v os with
  | some (x, os') => match shareVs lim r os' with
   | some (xs, os'') => some (x :: xs, os'')
   | none => none
  | none => none
end
def oneEV : List EV → EV
 | [v] => v
 | vs => .tup vs
noncomputable def body0 (C : CallFn) (d : DFn) (args : List EV) (h : Hp) : Option (EV × Hp) :=
 if args.length = d.np then
  match exec C d.body (args0 0 args, if d.loc then { h with lim := h.objs.length } else h) with
  | some (.exit _, _, _) => none
  | some (_, fr, h') =>
   match resultsOf fr h' d.res with
   | none => none
   | some vs =>
    match (if d.share then shareVs h'.lim vs h'.objs else some (vs, h'.objs)) with
    | none => none
    | some (vs, os) =>
     let v : EV := oneEV vs
     if d.loc then
      if EV.under h.objs.length v = true then some (v, h) else none
     else some (v, { objs := os, lim := h.lim })
  | none => none
 else none
def shareArgs (b : Bool) (args : List EV) (h : Hp) : Option (List EV × Hp) :=
 if b then match shareVs h.lim args h.objs with
  | some (as, os) => some (as, ⟨os, h.lim⟩)
  | none => none
 else some (args, h)
noncomputable def body (C : CallFn) (d : DFn) (args : List EV) (h : Hp) : Option (EV × Hp) :=
 match shareArgs d.sha args h with
 | some (as, h') => body0 C d as h'
 | none => none
noncomputable def roundC (C : CallFn) (args : List EV) (h : Hp) : Option (EV × Hp) :=
 match args with
 | .p (.agg []) :: .yld z :: as =>
  match h.objs[z]? with
  | some (.loop l) =>
   match l.st with
   | .ready =>
    if as.length = l.ps.length ∧ h.lim ≤ z then
     match exec C l.a ((l.ps.zip as).foldl (fun fr p => p :: fr) l.fr, h) with
     | some (.normal, fr, h1) =>
      match h1.objs[z]? with
      | some (.loop l1) =>
       match l1.st with
       | .ready =>
        match exec C l.b (fr, { h1 with objs := h1.objs.set z (.loop { l1 with st := .busy }) }) with
        | some (e, _, h2) =>
         match h2.objs[z]? with
         | some (.loop l2) => some (.p (.bool (decide (e = .normal))), { h2 with objs := h2.objs.set z (.loop { l2 with st := if e = .normal then .ready else .done e }) })
         | _ => none
        | none => none
       | _ => none
      | _ => none
     | _ => none
    else none
   | _ => none
  | _ => none
 | _ => none
abbrev Prog := Nat → Option DFn
noncomputable def callN (p : Prog) (ext : CallFn → CallFn) : Nat → CallFn
 | 0 => fun _ _ _ => none
 | n + 1 => fun f args h => match p f with
  | some d => body (callN p ext n) d args h
  | none => if f = yieldNo then roundC (callN p ext n) args h else ext (callN p ext n) f args h
open Classical in
noncomputable def call (p : Prog) (ext : CallFn → CallFn) : CallFn := fun f args h =>
 if e : ∃ n r, callN p ext n f args h = some r then callN p ext e.choose f args h else none
end Dk
namespace Dk
open Go Go.RowKit
structure Gh where
 rd : Nat → Nat → Option Value
 ph : Nat → Option (Nat × Nat × Nat)
 pend : Nat → Prop
 df : Nat → Prop
 bf : Nat → Option Nat
class Globs where
 tab : Nat → Option (List PD)
 bld : Nat
 byt : Nat
class SiteRel where
 rel : List Nat → DC → DC → Nat → Array Tmp → Code → Code → Prop
mutual
def RP (rd : Nat → Nat → Option Value) : PD → Value → Prop
 | .int k n, v => v = .int k n
 | .bool b, v => v = .bool b
 | .str s, v => v = .string s
 | .list xs, v => ∃ a cap, v = .slice a xs.length cap ∧ xs.length ≤ cap ∧ (xs = [] ∨ ∃ b o sz, a = some ⟨b, o, none⟩ ∧ 0 < sz ∧ RPl rd b o sz xs)
 | .agg _, _ => False
def RPl (rd : Nat → Nat → Option Value) : Nat → Nat → Nat → List PD → Prop
 | _, _, _, [] => True
 | b, o, sz, x :: r => RPe rd b o sz x ∧ RPl rd b (o + sz) sz r
def RPe (rd : Nat → Nat → Option Value) : Nat → Nat → Nat → PD → Prop
 | b, o, sz, .agg cs => cs.length = sz ∧ RPcs rd b o cs
 | b, o, sz, .int k n => sz = 1 ∧ ∃ v, rd b o = some v ∧ v = .int k n
 | b, o, sz, .bool t => sz = 1 ∧ ∃ v, rd b o = some v ∧ v = .bool t
 | b, o, sz, .str s => sz = 1 ∧ ∃ v, rd b o = some v ∧ v = .string s
 | b, o, sz, .list xs => sz = 1 ∧ ∃ v, rd b o = some v ∧ ∃ a cap, v = .slice a xs.length cap ∧ xs.length ≤ cap ∧ (xs = [] ∨ ∃ b o sz, a = some ⟨b, o, none⟩ ∧ 0 < sz ∧ RPl rd b o sz xs)
def RPcs (rd : Nat → Nat → Option Value) : Nat → Nat → List PD → Prop
 | _, _, [] => True
 | b, o, c :: r => (∃ v, rd b o = some v ∧ RP rd c v) ∧ RPcs rd b (o + 1) r
end
theorem RPe_iff (rd : Nat → Nat → Option Value) (b o sz : Nat) (x : PD) : RPe rd b o sz x ↔ x.cells.length = sz ∧ RPcs rd b o x.cells := by
 cases x <;> simp [RPe, PD.cells, RPcs, RP, eq_comm]
theorem RPcs_get {rd : Nat → Nat → Option Value} {b : Nat} : ∀ {cs : List PD} {o : Nat}, RPcs rd b o cs ↔ ∀ j c, cs[j]? = some c → ∃ v, rd b (o + j) = some v ∧ RP rd c v
 | [], o => by simp [RPcs]
 | c :: r, o => by
  rw [RPcs, RPcs_get (cs := r)]
  constructor
  · rintro ⟨h0, h⟩ j c' hj
    cases j with
    | zero => simp at hj; subst hj; exact h0
    | succ j => have := h j c' (by simpa using hj); rwa [show o + 1 + j = o + (j + 1) by omega] at this
  · intro h
    refine ⟨h 0 c (by simp), fun j c' hj => ?_⟩
    have := h (j + 1) c' (by simpa using hj)
    rwa [show o + (j + 1) = o + 1 + j by omega] at this
theorem RPl_get {rd : Nat → Nat → Option Value} {b sz : Nat} : ∀ {xs : List PD} {o : Nat}, RPl rd b o sz xs ↔ ∀ i x, xs[i]? = some x → x.cells.length = sz ∧ RPcs rd b (o + i * sz) x.cells
 | [], o => by simp [RPl]
 | x :: r, o => by
  rw [RPl, RPl_get (xs := r), RPe_iff]
  constructor
  · rintro ⟨h0, h⟩ j c' hj
    cases j with
    | zero => simp at hj; subst hj; simpa using h0
    | succ j => have := h j c' (by simpa using hj); rwa [show o + sz + j * sz = o + (j + 1) * sz by rw [Nat.add_mul]; omega] at this
  · intro h
    refine ⟨by simpa using h 0 x (by simp), fun j c' hj => ?_⟩
    have := h (j + 1) c' (by simpa using hj)
    rwa [show o + (j + 1) * sz = o + sz + j * sz by rw [Nat.add_mul]; omega] at this
mutual
def RV (g : Gh) (os : List Obj) : EV → Value → Prop
 | .p x, v => RP g.rd x v
 | .full xs, v => RP g.rd (.list xs) v ∧ ∃ a, v = .slice a xs.length xs.length
 | .arr id gen sz off len f, v => (0 < sz ∧ ¬ g.pend id) ∧ ∃ a cap ar, v = .slice a len cap ∧ len ≤ cap ∧ os[id]? = some (.cells ar) ∧ gen ≤ ar.gen ∧
  (ar.gen = gen → ar.sz = sz ∧ (f = true → cap = len)) ∧
  (0 < cap → ∃ b0 o0, a = some ⟨b0, o0, none⟩ ∧ (ar.gen = gen → ∃ base tot, g.ph id = some (b0, base, tot) ∧ o0 = base + off * sz ∧ off + cap ≤ tot))
 | .ptr id gen i o, v => ∃ b0 o0 ar, v = .pointer (some ⟨b0, o0, none⟩) ∧ os[id]? = some (.cells ar) ∧ gen ≤ ar.gen ∧
  (ar.gen = gen → ∃ base tot, g.ph id = some (b0, base, tot) ∧ o0 = base + i * ar.sz + o)
 | .sub id gen i o sz len, v => 0 < sz ∧ ∃ a cap ar, v = .slice a len cap ∧ len ≤ cap ∧ os[id]? = some (.cells ar) ∧ gen ≤ ar.gen ∧
  (0 < cap → ∃ b0 o0, a = some ⟨b0, o0, none⟩ ∧ (ar.gen = gen → ∃ base tot, g.ph id = some (b0, base, tot) ∧ o0 = base + i * ar.sz + o))
 | .nilp, v => v = .pointer none
 | .cp cs o, v => ∃ b o0, v = .pointer (some ⟨b, o0 + o, none⟩) ∧ RPcs g.rd b o0 cs
 | .fn f a b, v => ∃ fa fb, v = .func f fa fb ∧ RVs g os a fa.toList ∧ RVs g os b fb.toList
 | .nilf, v => v = .nilFunc
 | .map id, v => ∃ b x y es, v = .map (some b) ∧ g.ph id = some (b, x, y) ∧ os[id]? = some (.map es)
 | .nilmap, v => v = .map none
 | .yld id, v => ∃ l x y lo, v = .func (.yield l) #[] #[] ∧ g.ph id = some (l, x, y) ∧ os[id]? = some (.loop lo)
 | .bld id, v => ∃ b x y s, v = .pointer (some ⟨b, 0, none⟩) ∧ g.ph id = some (b, x, y) ∧ os[id]? = some (.bld s)
 | .iface t e, v => ∃ u, v = .iface t u ∧ RV g os e u
 | .nili, v => v = .nilIface
 | .agg cs, v => ∃ vs, v = .agg vs ∧ RVs g os cs vs.toList
 | .tup cs, v => ∃ vs, v = .tuple vs ∧ RVs g os cs vs.toList
 | .junk, _ => True
def RVs (g : Gh) (os : List Obj) : List EV → List Value → Prop
 | [], vs => vs = []
 | e :: r, vs => ∃ v ws, vs = v :: ws ∧ RV g os e v ∧ RVs g os r ws
end
structure Ext (g : Gh) (os : List Obj) (g' : Gh) (os' : List Obj) : Prop where
 rd : ∀ b o v, g.rd b o = some v → g'.rd b o = some v
 cells : ∀ id ar, os[id]? = some (.cells ar) → ∃ ar', os'[id]? = some (.cells ar') ∧ ar.gen ≤ ar'.gen ∧ (ar'.gen = ar.gen → ar'.sz = ar.sz ∧ ∀ x, g.ph id = some x → g'.ph id = some x)
 maps : ∀ id es, os[id]? = some (.map es) → ∃ es', os'[id]? = some (.map es') ∧ ∀ x, g.ph id = some x → g'.ph id = some x
 loops : ∀ id lo, os[id]? = some (.loop lo) → ∃ lo', os'[id]? = some (.loop lo') ∧ ∀ x, g.ph id = some x → g'.ph id = some x
 pend : ∀ id, id < os.length → g'.pend id → g.pend id
 blds : ∀ id s, os[id]? = some (.bld s) → ∃ s', os'[id]? = some (.bld s') ∧ ∀ x, g.ph id = some x → g'.ph id = some x
theorem Ext.len {g g' : Gh} {os os' : List Obj} (h : Ext g os g' os') : os.length ≤ os'.length := by
 rcases Nat.eq_zero_or_pos os.length with q | q
 · omega
 · have hl : os.length - 1 < os.length := by omega
   cases ho : os[os.length - 1] with
   | cells ar =>
    obtain ⟨ar', h', _⟩ := h.cells _ ar (by rw [← ho]; exact List.getElem?_eq_getElem hl)
    have := (List.getElem?_eq_some_iff.1 h').1
    omega
   | map es =>
    obtain ⟨es', h', _⟩ := h.maps _ es (by rw [← ho]; exact List.getElem?_eq_getElem hl)
    have := (List.getElem?_eq_some_iff.1 h').1
    omega
   | loop lo =>
    obtain ⟨es', h', _⟩ := h.loops _ lo (by rw [← ho]; exact List.getElem?_eq_getElem hl)
    have := (List.getElem?_eq_some_iff.1 h').1
    omega
   | bld s =>
    obtain ⟨es', h', _⟩ := h.blds _ s (by rw [← ho]; exact List.getElem?_eq_getElem hl)
    have := (List.getElem?_eq_some_iff.1 h').1
    omega
theorem Ext.refl (g : Gh) (os : List Obj) : Ext g os g os :=
 ⟨fun _ _ _ h => h, fun _ ar h => ⟨ar, h, Nat.le_refl _, fun _ => ⟨rfl, fun _ h => h⟩⟩, fun _ es h => ⟨es, h, fun _ h => h⟩, fun _ lo h => ⟨lo, h, fun _ h => h⟩, fun _ _ h => h, fun _ s h => ⟨s, h, fun _ h => h⟩⟩
theorem Ext.trans {g g' g'' : Gh} {os os' os'' : List Obj} (h : Ext g os g' os') (k : Ext g' os' g'' os'') : Ext g os g'' os'' where
 rd b o v e := k.rd _ _ _ (h.rd _ _ _ e)
 cells id ar e := by
  obtain ⟨ar', e', l, q⟩ := h.cells id ar e
  obtain ⟨ar'', e'', l', q'⟩ := k.cells id ar' e'
  refine ⟨ar'', e'', Nat.le_trans l l', fun hg => ?_⟩
  have h1 : ar'.gen = ar.gen := by omega
  have h2 : ar''.gen = ar'.gen := by omega
  obtain ⟨s, p⟩ := q h1
  obtain ⟨s', p'⟩ := q' h2
  exact ⟨s'.trans s, fun x hx => p' x (p x hx)⟩
 maps id es e := by
  obtain ⟨es', e', q⟩ := h.maps id es e
  obtain ⟨es'', e'', q'⟩ := k.maps id es' e'
  exact ⟨es'', e'', fun x hx => q' x (q x hx)⟩
 loops id es e := by
  obtain ⟨es', e', q⟩ := h.loops id es e
  obtain ⟨es'', e'', q'⟩ := k.loops id es' e'
  exact ⟨es'', e'', fun x hx => q' x (q x hx)⟩
 pend id hl hp := h.pend id hl (k.pend id (Nat.lt_of_lt_of_le hl h.len) hp)
 blds id es e := by
  obtain ⟨es', e', q⟩ := h.blds id es e
  obtain ⟨es'', e'', q'⟩ := k.blds id es' e'
  exact ⟨es'', e'', fun x hx => q' x (q x hx)⟩
mutual
theorem RP.mono {rd rd' : Nat → Nat → Option Value} (h : ∀ b o v, rd b o = some v → rd' b o = some v) : ∀ (x : PD) (v : Value), RP rd x v → RP rd' x v
 | .int k n, v, q => by simpa [RP] using q
 | .bool b, v, q => by simpa [RP] using q
 | .str s, v, q => by simpa [RP] using q
 | .list xs, v, q => by
  simp only [RP] at q ⊢
  obtain ⟨a, cap, rfl, hl, q⟩ := q
  refine ⟨a, cap, rfl, hl, q.imp id ?_⟩
  rintro ⟨b, o, sz, rfl, hs, q⟩
  exact ⟨b, o, sz, rfl, hs, RPl.mono h xs b o sz q⟩
 | .agg _, v, q => by simp [RP] at q
theorem RPl.mono {rd rd' : Nat → Nat → Option Value} (h : ∀ b o v, rd b o = some v → rd' b o = some v) : ∀ (xs : List PD) (b o sz : Nat), RPl rd b o sz xs → RPl rd' b o sz xs
 | [], _, _, _, _ => by simp [RPl]
 | x :: r, b, o, sz, q => by
  simp only [RPl] at q ⊢
  exact ⟨RPe.mono h x b o sz q.1, RPl.mono h r b (o + sz) sz q.2⟩
theorem RPe.mono {rd rd' : Nat → Nat → Option Value} (h : ∀ b o v, rd b o = some v → rd' b o = some v) : ∀ (x : PD) (b o sz : Nat), RPe rd b o sz x → RPe rd' b o sz x
 | .agg cs, b, o, sz, q => by simp only [RPe] at q ⊢; exact ⟨q.1, RPcs.mono h cs b o q.2⟩
 | .int k n, b, o, sz, q => by simp only [RPe] at q ⊢; obtain ⟨s, v, e, r⟩ := q; exact ⟨s, v, h _ _ _ e, r⟩
 | .bool k, b, o, sz, q => by simp only [RPe] at q ⊢; obtain ⟨s, v, e, r⟩ := q; exact ⟨s, v, h _ _ _ e, r⟩
 | .str k, b, o, sz, q => by simp only [RPe] at q ⊢; obtain ⟨s, v, e, r⟩ := q; exact ⟨s, v, h _ _ _ e, r⟩
 | .list xs, b, o, sz, q => by
  simp only [RPe] at q ⊢
  obtain ⟨s, v, e, a, cap, rfl, hl, q⟩ := q
  refine ⟨s, _, h _ _ _ e, a, cap, rfl, hl, q.imp id ?_⟩
  rintro ⟨b, o, sz, rfl, hs, q⟩
  exact ⟨b, o, sz, rfl, hs, RPl.mono h xs b o sz q⟩
theorem RPcs.mono {rd rd' : Nat → Nat → Option Value} (h : ∀ b o v, rd b o = some v → rd' b o = some v) : ∀ (cs : List PD) (b o : Nat), RPcs rd b o cs → RPcs rd' b o cs
 | [], _, _, _ => by simp [RPcs]
 | c :: r, b, o, q => by
  simp only [RPcs] at q ⊢
  obtain ⟨⟨v, e, q1⟩, q2⟩ := q
  exact ⟨⟨v, h _ _ _ e, RP.mono h c v q1⟩, RPcs.mono h r b (o + 1) q2⟩
end
mutual
theorem RV.mono {g g' : Gh} {os os' : List Obj} (h : Ext g os g' os') : ∀ (e : EV) (v : Value), RV g os e v → RV g' os' e v
 | .p x, v, q => by simp only [RV] at q ⊢; exact RP.mono h.rd x v q
 | .full xs, v, q => by simp only [RV] at q ⊢; exact ⟨RP.mono h.rd _ v q.1, q.2⟩
 | .arr id gen sz off len f, v, q => by
  simp only [RV] at q ⊢
  obtain ⟨hs, a, cap, ar, rfl, hl, ho, hg, q, p⟩ := q
  obtain ⟨ar', ho', hg', q'⟩ := h.cells id ar ho
  refine ⟨⟨hs.1, fun hp => hs.2 (h.pend id (List.getElem?_eq_some_iff.1 ho).1 hp)⟩, a, cap, ar', rfl, hl, ho', by omega, fun e => ?_, fun hc => ?_⟩
  · obtain ⟨s, f1⟩ := q (by omega)
    obtain ⟨s', p'⟩ := q' (by omega)
    exact ⟨s'.trans s, f1⟩
  · obtain ⟨b, o0, ha, p⟩ := p hc
    refine ⟨b, o0, ha, fun e => ?_⟩
    obtain ⟨s', p'⟩ := q' (by omega)
    obtain ⟨base, tot, hp, r⟩ := p (by omega)
    exact ⟨base, tot, p' _ hp, r⟩
 | .ptr id gen i o, v, q => by
  simp only [RV] at q ⊢
  obtain ⟨b0, o0, ar, rfl, ho, hg, q⟩ := q
  obtain ⟨ar', ho', hg', q'⟩ := h.cells id ar ho
  refine ⟨b0, o0, ar', rfl, ho', by omega, fun e => ?_⟩
  obtain ⟨base, tot, hp, he⟩ := q (by omega)
  obtain ⟨s', p'⟩ := q' (by omega)
  exact ⟨base, tot, p' _ hp, by rw [s']; exact he⟩
 | .sub id gen i o sz len, v, q => by
  simp only [RV] at q ⊢
  obtain ⟨hs, a, cap, ar, rfl, hl, ho, hg, p⟩ := q
  obtain ⟨ar', ho', hg', q'⟩ := h.cells id ar ho
  refine ⟨hs, a, cap, ar', rfl, hl, ho', by omega, fun hc => ?_⟩
  obtain ⟨b, o0, ha, p⟩ := p hc
  refine ⟨b, o0, ha, fun e => ?_⟩
  obtain ⟨base, tot, hp, he⟩ := p (by omega)
  obtain ⟨s', p'⟩ := q' (by omega)
  exact ⟨base, tot, p' _ hp, by rw [s']; exact he⟩
 | .nilp, v, q => by simpa [RV] using q
 | .cp cs o, v, q => by
  simp only [RV] at q ⊢
  obtain ⟨b, o0, rfl, q⟩ := q
  exact ⟨b, o0, rfl, RPcs.mono h.rd cs b o0 q⟩
 | .fn f a b, v, q => by
  simp only [RV] at q ⊢
  obtain ⟨fa, fb, rfl, q1, q2⟩ := q
  exact ⟨fa, fb, rfl, RVs.mono h a _ q1, RVs.mono h b _ q2⟩
 | .nilf, v, q => by simpa [RV] using q
 | .map id, v, q => by
  simp only [RV] at q ⊢
  obtain ⟨b, x, y, es, rfl, hp, ho⟩ := q
  obtain ⟨es', ho', p'⟩ := h.maps id es ho
  exact ⟨b, x, y, es', rfl, p' _ hp, ho'⟩
 | .nilmap, v, q => by simpa [RV] using q
 | .yld id, v, q => by
  simp only [RV] at q ⊢
  obtain ⟨l, x, y, lo, rfl, hp, ho⟩ := q
  obtain ⟨lo', ho', p'⟩ := h.loops id lo ho
  exact ⟨l, x, y, lo', rfl, p' _ hp, ho'⟩
 | .bld id, v, q => by
  simp only [RV] at q ⊢
  obtain ⟨b, x, y, s, rfl, hp, ho⟩ := q
  obtain ⟨s', ho', p'⟩ := h.blds id s ho
  exact ⟨b, x, y, s', rfl, p' _ hp, ho'⟩
 | .iface t e, v, q => by
  simp only [RV] at q ⊢
  obtain ⟨u, rfl, q⟩ := q
  exact ⟨u, rfl, RV.mono h e u q⟩
 | .nili, v, q => by simpa [RV] using q
 | .agg cs, v, q => by
  simp only [RV] at q ⊢
  obtain ⟨vs, rfl, q⟩ := q
  exact ⟨vs, rfl, RVs.mono h cs _ q⟩
 | .tup cs, v, q => by
  simp only [RV] at q ⊢
  obtain ⟨vs, rfl, q⟩ := q
  exact ⟨vs, rfl, RVs.mono h cs _ q⟩
 | .junk, v, q => by simp [RV]
theorem RVs.mono {g g' : Gh} {os os' : List Obj} (h : Ext g os g' os') : ∀ (es : List EV) (vs : List Value), RVs g os es vs → RVs g' os' es vs
 | [], vs, q => by simpa [RVs] using q
 | e :: r, vs, q => by
  simp only [RVs] at q ⊢
  obtain ⟨v, ws, rfl, q1, q2⟩ := q
  exact ⟨v, ws, rfl, RV.mono h e v q1, RVs.mono h r ws q2⟩
end
theorem RVs_get {g : Gh} {os : List Obj} : ∀ {es : List EV} {vs : List Value}, RVs g os es vs ↔ es.length = vs.length ∧ ∀ (i : Nat) (e : EV), es[i]? = some e → ∃ v, vs[i]? = some v ∧ RV g os e v
 | [], vs => by simp [RVs, eq_comm (a := 0)]
 | e :: r, vs => by
  rw [RVs]
  constructor
  · rintro ⟨v, ws, rfl, h0, h⟩
    rw [RVs_get (es := r)] at h
    refine ⟨by simp [h.1], fun i e' hi => ?_⟩
    cases i with
    | zero => simp at hi; subst hi; exact ⟨v, by simp, h0⟩
    | succ i => simpa using h.2 i e' (by simpa using hi)
  · rintro ⟨hl, h⟩
    cases vs with
    | nil => simp at hl
    | cons v ws =>
     obtain ⟨v', hv, h0⟩ := h 0 e (by simp)
     simp at hv; subst hv
     refine ⟨v, ws, rfl, h0, RVs_get.2 ⟨by simpa using hl, fun i e' hi => ?_⟩⟩
     simpa using h (i + 1) e' (by simpa using hi)
theorem RVs_append {g : Gh} {os : List Obj} : ∀ {es fs : List EV} {vs ws : List Value}, RVs g os es vs → RVs g os fs ws → RVs g os (es ++ fs) (vs ++ ws)
 | [], fs, vs, ws, h, k => by simp [RVs] at h; subst h; simpa using k
 | e :: r, fs, vs, ws, h, k => by
  simp only [RVs] at h
  obtain ⟨v, us, rfl, h0, h⟩ := h
  simp only [List.cons_append, RVs]
  exact ⟨v, us ++ ws, rfl, h0, RVs_append h k⟩
def jumpOf : Ex → Option Code
 | .normal => none
 | .exit i => some (.exit i)
 | .ret => some .ret
def StIs : LSt → Go.Loop → Prop
 | .ready, r => r.state = .ready ∧ r.pending = none
 | .busy, _ => True
 | .done e, r => r.state = .done ∧ r.pending = jumpOf e
 | .over, _ => True
variable [Globs] [SiteRel]
omit [SiteRel] in
def Gl (g : Gh) : Prop := ∀ n cs, Globs.tab n = some cs → RPcs g.rd n 0 cs
omit [SiteRel] in
theorem Gl.mono {g g' : Gh} (h : Gl g) (hE : ∀ b o v, g.rd b o = some v → g'.rd b o = some v) : Gl g' := fun n cs e => RPcs.mono hE cs n 0 (h n cs e)
omit [Globs] in
def LoopIs (g : Gh) (os : List Obj) (lo : LoopO) (r : Go.Loop) : Prop :=
 SiteRel.rel lo.ps lo.a lo.b r.tmps.size r.params r.assign r.body ∧ StIs lo.st r ∧ ∀ t, RV g os (Fr.get lo.fr t) (r.tmps.getD t undef)
theorem LoopIs.mono {g g' : Gh} {os os' : List Obj} (h : Ext g os g' os') {lo : LoopO} {r : Go.Loop} (q : LoopIs g os lo r) : LoopIs g' os' lo r := ⟨q.1, q.2.1, fun t => RV.mono h _ _ (q.2.2 t)⟩
structure MapOK (mes : Array MapEntry) (clock n : Nat) : Prop where
 size : mes.size = n
 low : ∀ m ∈ mes.toList, m.born < clock
 nodup : (mes.toList.map (·.born)).Nodup
def BldIs (g : Gh) (w : World) (b : Nat) (s : ByteArray) : Prop :=
 ∃ p v, (p = .pointer none ∨ p = .pointer (some ⟨b, 0, none⟩)) ∧ w.heap[b]? = some (.cells #[p, v] Globs.bld (0, 0)) ∧ w.ownsRow 0 Globs.byt 1 v s.size (Lib.strCells s) ∧ ∀ c, v.ownBlock = some c → g.bf c = some b
structure Inv (B : Nat) (w0 : World) (g : Gh) (os : List Obj) (w : World) : Prop where
 pend : ∀ id, g.pend id → g.ph id = none ∧ id < os.length
 low : Below B w0 w
 base : B ≤ w.heap.size
 rdok : ∀ b o v, g.rd b o = some v → w.cell? ⟨b, o, none⟩ = some v ∧ v.oneCell' = true
 dom : ∀ id x, g.ph id = some x → id < os.length
 inj : ∀ id id' b x y x' y', g.ph id = some (b, x, y) → g.ph id' = some (b, x', y') → id = id'
 high : ∀ id b x y, g.ph id = some (b, x, y) → B ≤ b
 cells : ∀ id ar b base tot, os[id]? = some (.cells ar) → g.ph id = some (b, base, tot) → 0 < ar.sz ∧ ar.els.length ≤ tot ∧
  (∀ o v, g.rd b o = some v → o < base + ar.frz * ar.sz) ∧
  ∃ arr T, w.heap[b]? = some (.cells arr T (0, 0)) ∧ base + tot * ar.sz ≤ arr.size ∧
   ∀ i el, ar.els[i]? = some el → el.length = ar.sz ∧ ∀ j e, el[j]? = some e → ∃ v, arr[base + i * ar.sz + j]? = some v ∧ v.oneCell' = true ∧ RV g os e v
 maps : ∀ id es b x y, os[id]? = some (.map es) → g.ph id = some (b, x, y) → ∃ mes clock, w.heap[b]? = some (.map mes clock) ∧ MapOK mes clock es.length ∧
  ∀ (i : Nat) (k : PD) (e : EV), es[i]? = some (k, e) → ∃ me : MapEntry, mes[i]? = some me ∧ RP g.rd k me.key ∧ RV g os e me.val
 loops : ∀ id lo b x y, os[id]? = some (.loop lo) → g.ph id = some (b, x, y) → ∃ r, w.heap[b]? = some (.loop r) ∧ LoopIs g os lo r
 defs : ∀ b, g.df b → B ≤ b ∧ w.heap[b]? = some (.deferred (some []))
 gl : Gl g
 bfok : ∀ c b0, g.bf c = some b0 → B ≤ c ∧ (∃ arr fz, w.heap[c]? = some (.cells arr Globs.byt fz)) ∧ (∀ i b x y, g.ph i = some (b, x, y) → b ≠ c) ∧ ∀ o, g.rd c o = none
 blds : ∀ id s b x y, os[id]? = some (.bld s) → g.ph id = some (b, x, y) → (∃ cs, w.heap[b]? = some (.cells cs Globs.bld (0, 0))) ∧ (∀ o, g.rd b o = none) ∧ ∀ t, s = some t → BldIs g w b t
theorem Inv.bflt {B : Nat} {w0 w : World} {g : Gh} {os : List Obj} (hI : Inv B w0 g os w) {c b : Nat} (h : g.bf c = some b) : c < w.heap.size := by
 obtain ⟨_, ⟨_, _, q⟩, _⟩ := hI.bfok c b h
 exact (Array.getElem?_eq_some_iff.1 q).1
theorem Inv.block {B : Nat} {w0 w : World} {g : Gh} {os : List Obj} (hI : Inv B w0 g os w) {id b x y : Nat} (hp : g.ph id = some (b, x, y)) : ∃ o, w.heap[b]? = some o ∧ ∀ ds, o ≠ .deferred ds := by
 have hd := hI.dom id _ hp
 cases ho : os[id]? with
 | none => rw [List.getElem?_eq_none_iff] at ho; omega
 | some ob =>
  cases ob with
  | cells ar =>
   obtain ⟨_, _, _, arr, T, hh, _⟩ := hI.cells id ar b x y ho hp
   exact ⟨_, hh, fun ds e => by cases e⟩
  | map es =>
   obtain ⟨_, _, hh, _⟩ := hI.maps id es b x y ho hp
   exact ⟨_, hh, fun ds e => by cases e⟩
  | loop lo =>
   obtain ⟨_, hh, _⟩ := hI.loops id lo b x y ho hp
   exact ⟨_, hh, fun ds e => by cases e⟩
  | bld s =>
   obtain ⟨⟨_, hh⟩, _⟩ := hI.blds id s b x y ho hp
   exact ⟨_, hh, fun ds e => by cases e⟩
end Dk
namespace Dk
open Go Go.RowKit
variable [Globs] [SiteRel] {P : Program} {B : Nat} {w0 w : World} {g : Gh} {os : List Obj}
theorem RV.list_cases {x : PD} {v : Value} (h : RV g os (.p x) v) : RP g.rd x v := by simpa [RV] using h
theorem RP.one {rd : Nat → Nat → Option Value} {x : PD} {v : Value} (h : RP rd x v) : v.oneCell' = true := by
 cases x <;> simp [RP] at h
 · subst h; rfl
 · subst h; rfl
 · subst h; rfl
 · obtain ⟨a, cap, rfl, _⟩ := h; rfl
theorem RV.one {e : EV} {v : Value} (h : RV g os e v) (h1 : e.one = true) : v.oneCell' = true := by
 cases e <;> simp [EV.one] at h1 <;> simp only [RV] at h
 case p x => exact h.one
 case full xs => exact h.1.one
 case arr => obtain ⟨_, a, cap, ar, rfl, _⟩ := h; rfl
 case ptr => obtain ⟨_, _, _, rfl, _⟩ := h; rfl
 case sub => obtain ⟨_, a, cap, ar, rfl, _⟩ := h; rfl
 case nilp => subst h; rfl
 case cp => obtain ⟨_, _, rfl, _⟩ := h; rfl
 case fn => obtain ⟨_, _, rfl, _⟩ := h; rfl
 case yld => obtain ⟨_, _, _, _, rfl, _⟩ := h; rfl
 case nilf => subst h; rfl
 case map => obtain ⟨_, _, _, _, rfl, _⟩ := h; rfl
 case nilmap => subst h; rfl
 case iface => obtain ⟨_, rfl, _⟩ := h; rfl
 case nili => subst h; rfl
def At (g : Gh) (os : List Obj) (w : World) (b o : Nat) (es : List EV) : Prop :=
 ∀ (j : Nat) (e : EV), es[j]? = some e → ∃ u, w.cell? ⟨b, o + j, none⟩ = some u ∧ u.oneCell' = true ∧ RV g os e u
theorem At.sub {b o : Nat} {es : List EV} (h : At g os w b o es) (k n : Nat) : At g os w b (o + k) ((es.drop k).take n) := by
 intro j e he
 rw [List.getElem?_take] at he
 split at he
 · rw [List.getElem?_drop] at he
   have := h (k + j) e he
   rwa [show o + (k + j) = o + k + j by omega] at this
 · cases he
theorem At.vals {b o : Nat} : ∀ {es : List EV}, At g os w b o es → ∃ us : List Value, RVs g os es us ∧ (∀ u ∈ us, u.oneCell' = true) ∧ ∀ j u, us[j]? = some u → w.cell? ((⟨b, o, none⟩ : Addr).add j) = some u
 | [], _ => ⟨[], by simp [RVs], by simp, by simp⟩
 | e :: r, h => by
  obtain ⟨u, hc, h1, hv⟩ := h 0 e (by simp)
  have hr : At g os w b (o + 1) r := fun j e' he => by
   have := h (j + 1) e' (by simpa using he)
   rwa [show o + (j + 1) = o + 1 + j by omega] at this
  obtain ⟨us, hvs, h1s, hcs⟩ := hr.vals
  refine ⟨u :: us, by simp only [RVs]; exact ⟨u, us, rfl, hv, hvs⟩, by simp; exact ⟨h1, h1s⟩, fun j x hj => ?_⟩
  rw [Addr.add_lit]
  cases j with
  | zero => simp at hj; subst hj; simpa using hc
  | succ j =>
   have := hcs j x (by simpa using hj)
   rw [Addr.add_lit] at this
   rwa [show o + (j + 1) = o + 1 + j by omega]
theorem ptr_at (hI : Inv B w0 g os w) {id gen i o : Nat} {v : Value} (hv : RV g os (.ptr id gen i o) v) {lim : Nat} {ar : Arr} (ha : Hp.arr ⟨os, lim⟩ id gen = some ar) {el : List EV} (he : ar.els[i]? = some el) :
 ∃ b o0 base tot, v = .pointer (some ⟨b, o0, none⟩) ∧ g.ph id = some (b, base, tot) ∧ o0 = base + i * ar.sz + o ∧ os[id]? = some (.cells ar) ∧ ar.gen = gen ∧ At g os w b (base + i * ar.sz) el := by
 unfold Hp.arr at ha
 simp only [RV] at hv
 obtain ⟨b0, o0, ar', rfl, ho, hg, hx⟩ := hv
 simp only [ho] at ha
 split at ha
 · rename_i hgen
   simp at ha; subst ha
   obtain ⟨base, tot, hp, he0⟩ := hx hgen
   obtain ⟨hs, ht, hrd, arr, T, hh, hsz, hels⟩ := hI.cells id ar' b0 base tot ho hp
   refine ⟨b0, o0, base, tot, rfl, hp, he0, ho, hgen, fun j e hj => ?_⟩
   obtain ⟨_, hc⟩ := hels i el he
   obtain ⟨u, hu, h1, hr⟩ := hc j e hj
   refine ⟨u, ?_, h1, hr⟩
   rw [cell_of_row w b0 _ arr T (0, 0) hh]; exact hu
 · cases ha
theorem cp_at (hI : Inv B w0 g os w) {cs : List PD} {o : Nat} {v : Value} (hv : RV g os (.cp cs o) v) :
 ∃ b o0, v = .pointer (some ⟨b, o0 + o, none⟩) ∧ At g os w b o0 (cs.map .p) := by
 simp only [RV] at hv
 obtain ⟨b, o0, rfl, hc⟩ := hv
 refine ⟨b, o0, rfl, fun j e hj => ?_⟩
 rw [List.getElem?_map] at hj
 cases hx : cs[j]? with
 | none => simp [hx] at hj
 | some x =>
  simp [hx] at hj; subst hj
  obtain ⟨u, hu, hr⟩ := RPcs_get.1 hc j x hx
  obtain ⟨h1, h2⟩ := hI.rdok _ _ _ hu
  exact ⟨u, h1, h2, by simpa [RV] using hr⟩
def TyIs (P : Program) (t : TypeId) (ag : Bool) (n : Nat) : Prop :=
 (∃ i, P.info? t = some i ∧ i.size = n) ∧ ∃ d, P.underlying t = some d ∧ ag = (match d with | .struct _ | .array _ _ => true | _ => false)
theorem TyIs.size {t : TypeId} {ag : Bool} {n : Nat} (h : TyIs P t ag n) (w : World) : (Go.sizeOf t).run P w = .ok n w := by
 obtain ⟨⟨i, hi, rfl⟩, _⟩ := h
 simp [Go.sizeOf, typeInfo, hi]
theorem TyIs.agg {t : TypeId} {ag : Bool} {n : Nat} (h : TyIs P t ag n) (w : World) : (isAgg t).run P w = .ok ag w := by
 obtain ⟨_, d, hd, rfl⟩ := h
 cases d <;> simp [isAgg, run_underlying hd]
theorem mk_vals {ag : Bool} {es : List EV} {r : EV} (h : mk ag es = some r) {us : List Value} (hu : RVs g os es us) : RV g os r (if ag then .agg us.toArray else us.headD undef) ∧ (ag = false → us.length = 1) := by
 unfold mk at h
 cases ag with
 | true => simp at h; subst h; simp [RV]; exact hu
 | false =>
  simp at h
  split at h
  · rename_i c
    simp at h; subst h
    simp only [RVs] at hu
    obtain ⟨v, ws, rfl, hv, rfl⟩ := hu
    simpa using hv
  · cases h
theorem run_loadVar_at {t : TypeId} {ag : Bool} {n : Nat} (hT : TyIs P t ag n) {b o : Nat} {es : List EV} (h : At g os w b o es) (hn : es.length = n) {r : EV} (hm : mk ag es = some r) :
 ∃ u, (loadVar t ⟨b, o, none⟩).run P w = .ok u w ∧ RV g os r u := by
 obtain ⟨us, hvs, _, hcs⟩ := h.vals
 obtain ⟨hr, hlen⟩ := mk_vals hm hvs
 refine ⟨_, ?_, hr⟩
 have hl : us.length = n := by rw [← hn]; exact (RVs_get.1 hvs).1.symm
 unfold loadVar
 cases ag with
 | true =>
  simp only [Sem.run_bind, hT.agg, Result.andThen_ok, if_true, hT.size]
  rw [← hl, run_loadCells_list w _ us hcs]
  rfl
 | false =>
  have h1 := hlen rfl
  cases us with
  | nil => simp at h1
  | cons u us =>
   have hc := hcs 0 u (by simp)
   rw [Addr.add_lit, Nat.add_zero] at hc
   simp [Sem.run_bind, hT.agg, hc]
theorem load_sound (hI : Inv B w0 g os w) {t : TypeId} {ag : Bool} {n : Nat} (hT : TyIs P t ag n) {x : EV} {v : Value} (hv : RV g os x v) {lim : Nat} {r : EV} (h : loadAt ag n x ⟨os, lim⟩ = some r) :
 ∃ u, (Instr.loadAt t v).run P w = .ok u w ∧ RV g os r u := by
 unfold loadAt at h
 split at h
 · rename_i id gen i o
   split at h
   · rename_i ar ha
     split at h
     · rename_i el he
       split at h
       · rename_i hle
         obtain ⟨b, o0, base, tot, rfl, hp, rfl, ho, hgen, hat⟩ := ptr_at hI hv ha he
         have := run_loadVar_at (P := P) hT (hat.sub o n) (by simp; omega) h
         simpa [Instr.loadAt, Instr.sureAddr] using this
       · cases h
     · cases h
   · cases h
 · rename_i cs o
   split at h
   · rename_i hle
     obtain ⟨b, o0, rfl, hat⟩ := cp_at hI hv
     have := run_loadVar_at (P := P) hT (hat.sub o n) (by simp; omega) (by simpa [List.map_take, List.map_drop] using h)
     simpa [Instr.loadAt, Instr.sureAddr] using this
   · cases h
 · cases h
theorem RVs_sub {es : List EV} {vs : List Value} (h : RVs g os es vs) (k n : Nat) : RVs g os ((es.drop k).take n) ((vs.drop k).take n) := by
 obtain ⟨hl, h⟩ := RVs_get.1 h
 refine RVs_get.2 ⟨by simp [hl], fun i e hi => ?_⟩
 rw [List.getElem?_take] at hi
 split at hi
 · rw [List.getElem?_drop] at hi
   obtain ⟨v, hv, hr⟩ := h _ _ hi
   exact ⟨v, by rw [List.getElem?_take, if_pos ‹_›, List.getElem?_drop]; exact hv, hr⟩
 · cases hi
theorem part_sound {t : TypeId} {ag : Bool} {n : Nat} (hT : TyIs P t ag n) {es : List EV} {vs : Array Value} (hv : RVs g os es vs.toList) {off : Nat} {r : EV} (hm : mk ag ((es.drop off).take n) = some r) :
 ∃ u, (part t vs off).run P w = .ok u w ∧ RV g os r u := by
 have hs := RVs_sub hv off n
 obtain ⟨hr, h1⟩ := mk_vals hm hs
 have hl := (RVs_get.1 hv).1
 refine ⟨_, ?_, hr⟩
 unfold part
 cases ag with
 | true =>
  simp only [Sem.run_bind, hT.agg, Result.andThen_ok, if_true, hT.size, Sem.run_pure]
  congr 2
  apply Array.ext'
  simp only [Array.toList_extract, List.extract_eq_take_drop]
  rw [show off + n - off = n by omega]
 | false =>
  have h2 := h1 rfl
  simp only [Sem.run_bind, hT.agg, Result.andThen_ok, Bool.false_eq_true, if_false]
  simp only [List.length_take, List.length_drop, Array.length_toList] at h2
  have hlt : off < vs.size := by omega
  rw [Array.getElem?_eq_getElem hlt]
  simp only [Sem.run_pure]
  congr 1
  have : ((vs.toList.drop off).take n).headD undef = vs[off] := by
   have h3 : 0 < n := by omega
   rw [List.headD_eq_head?_getD, List.head?_eq_getElem?, List.getElem?_take, if_pos h3, List.getElem?_drop]
   simp [hlt]
  exact this.symm
theorem fld_sound {s : TypeId} {fs : Array Field} {k off : Nat} {f : Field} (hu : P.underlying s = some (.struct fs)) (hf : fs[k]? = some f) (ho : f.offset = off) (hi : ∃ i, P.info? f.type = some i ∧ i.size ≠ 0)
 {x r : EV} {v : Value} (hv : RV g os x v) (h : fldAt off x = some r) :
 ∃ u, (Instr.fieldAt s v k).run P w = .ok u w ∧ RV g os r u := by
 unfold fldAt at h
 subst ho
 obtain ⟨i, hi, h0⟩ := hi
 cases x <;> simp at h
 case ptr id gn j o =>
  subst h
  simp only [RV] at hv
  obtain ⟨b0, o0, ar, rfl, hos, hg, hx⟩ := hv
  refine ⟨.pointer (some ⟨b0, o0 + f.offset, none⟩), ?_, ?_⟩
  · simp [Instr.fieldAt, run_underlying hu, hf, Instr.sureAddr, fieldPlace, Go.sizeOf, typeInfo, hi, h0, Addr.add_lit]
  · simp only [RV]
    refine ⟨b0, _, ar, rfl, hos, hg, fun e => ?_⟩
    obtain ⟨base, tot, hp, he⟩ := hx e
    exact ⟨base, tot, hp, by omega⟩
 case cp cs o =>
  subst h
  simp only [RV] at hv
  obtain ⟨b, o0, rfl, hc⟩ := hv
  refine ⟨.pointer (some ⟨b, o0 + o + f.offset, none⟩), ?_, ?_⟩
  · simp [Instr.fieldAt, run_underlying hu, hf, Instr.sureAddr, fieldPlace, Go.sizeOf, typeInfo, hi, h0, Addr.add_lit]
  · simp only [RV]
    exact ⟨b, o0, by rw [Nat.add_assoc], hc⟩
theorem fget_sound {s : TypeId} {fs : Array Field} {k off n : Nat} {ag : Bool} {f : Field} (hu : P.underlying s = some (.struct fs)) (hf : fs[k]? = some f) (ho : f.offset = off) (hT : TyIs P f.type ag n)
 {x r : EV} {v : Value} (hv : RV g os x v) (h : fgetAt off n ag x = some r) :
 ∃ u, (Instr.field s v k).run P w = .ok u w ∧ RV g os r u := by
 unfold fgetAt at h
 subst ho
 cases x <;> simp at h
 case agg cs =>
  simp only [RV] at hv
  obtain ⟨vs, rfl, hvs⟩ := hv
  obtain ⟨u, hr, hu'⟩ := part_sound (P := P) (w := w) hT hvs h.2
  exact ⟨u, by simp [Instr.field, run_underlying hu, hf, asAgg, hr], hu'⟩
theorem idx_some {i : EV} {n k : Nat} (h : idx i n = some k) : ∃ kd z, i = .p (.int kd z) ∧ 0 ≤ z ∧ z < n ∧ k = z.toNat ∧ k < n := by
 unfold idx at h
 split at h
 · rename_i kd z
   split at h
   · rename_i hz
     simp at h
     exact ⟨kd, z, rfl, hz.1, hz.2, h.symm, by omega⟩
   · cases h
 · cases h
theorem bound_some {i : EV} {n k : Nat} (h : bound i n = some k) : ∃ kd z, i = .p (.int kd z) ∧ 0 ≤ z ∧ z ≤ n ∧ k = z.toNat ∧ k ≤ n := by
 unfold bound at h
 split at h
 · rename_i kd z
   split at h
   · rename_i hz
     simp at h
     exact ⟨kd, z, rfl, hz.1, hz.2, h.symm, by omega⟩
   · cases h
 · cases h
theorem RV.int {k : IntKind} {n : Int} {v : Value} (h : RV g os (.p (.int k n)) v) : v = .int k n := by simpa [RV, RP] using h
theorem RV.bool {b : Bool} {v : Value} (h : RV g os (.p (.bool b)) v) : v = .bool b := by simpa [RV, RP] using h
theorem RV.str {s : ByteArray} {v : Value} (h : RV g os (.p (.str s)) v) : v = .string s := by simpa [RV, RP] using h
theorem list_index {xs : List PD} {v : Value} (hv : RP g.rd (.list xs) v) {t e : TypeId} {sz : Nat} (hu : P.underlying t = some (.slice e)) (hs : ∃ i, P.info? e = some i ∧ i.size = sz) {kd : IntKind} {z : Int} (h0 : 0 ≤ z) (h1 : z < xs.length) {x : PD} (hx : xs[z.toNat]? = some x) (hsz : x.cells.length = sz) :
 ∃ u, (Instr.indexAt t v (.int kd z)).run P w = .ok u w ∧ RV g os (.cp x.cells 0) u := by
 obtain ⟨i, hi, rfl⟩ := hs
 simp only [RP] at hv
 obtain ⟨a, cap, rfl, hl, hq⟩ := hv
 rcases hq with rfl | ⟨b, o, sz', rfl, hsp, hc⟩
 · simp at h1; omega
 · obtain ⟨hz1, hz2⟩ := RPl_get.1 hc _ _ hx
   refine ⟨.pointer (some ⟨b, o + z.toNat * i.size, none⟩), ?_, ?_⟩
   · simp [Instr.indexAt, run_underlying hu, asIntOf, h0, h1, Go.sizeOf, typeInfo, hi, Addr.add_lit]
   · simp only [RV]
     refine ⟨b, o + z.toNat * i.size, rfl, ?_⟩
     rw [← hsz, hz1]; exact hz2
theorem ixa_sound {t e : TypeId} {sz : Nat} (hu : P.underlying t = some (.slice e)) (hs : ∃ i, P.info? e = some i ∧ i.size = sz) {x i r : EV} {v vi : Value} (hv : RV g os x v) (hi : RV g os i vi) (h : indexAddr sz x i = some r) :
 ∃ u, (Instr.indexAt t v vi).run P w = .ok u w ∧ RV g os r u := by
 unfold indexAddr at h
 split at h
 · rename_i xs
   split at h
   · rename_i k hk
     obtain ⟨kd, z, rfl, h0, h1, rfl, hlt⟩ := idx_some hk
     obtain rfl := hi.int
     split at h
     · rename_i y hy
       split at h
       · simp at h; subst h
         exact list_index hv.list_cases hu hs h0 h1 hy ‹_›
       · cases h
     · cases h
   · cases h
 · rename_i xs
   split at h
   · rename_i k hk
     obtain ⟨kd, z, rfl, h0, h1, rfl, hlt⟩ := idx_some hk
     obtain rfl := hi.int
     split at h
     · rename_i y hy
       split at h
       · simp at h; subst h
         simp only [RV] at hv
         exact list_index hv.1 hu hs h0 h1 hy ‹_›
       · cases h
     · cases h
   · cases h
 · rename_i id gn s off len f
   split at h
   · rename_i hss
     subst hss
     split at h
     · rename_i k hk
       obtain ⟨kd, z, rfl, h0, h1, rfl, hlt⟩ := idx_some hk
       obtain rfl := hi.int
       simp at h; subst h
       simp only [RV] at hv
       obtain ⟨hsp, a, cap, ar, rfl, hl, ho, hg, hx, hy⟩ := hv
       obtain ⟨i, hi', hs'⟩ := hs
       obtain ⟨b0, o0, rfl, hz⟩ := hy (by omega)
       refine ⟨.pointer (some ⟨b0, o0 + z.toNat * s, none⟩), ?_, ?_⟩
       · simp [Instr.indexAt, run_underlying hu, asIntOf, h0, h1, Go.sizeOf, typeInfo, hi', hs', Addr.add_lit]
       · simp only [RV]
         refine ⟨b0, _, ar, rfl, ho, hg, fun e => ?_⟩
         obtain ⟨base, tot, hp, rfl, _⟩ := hz e
         obtain ⟨hs1, _⟩ := hx e
         exact ⟨base, tot, hp, by rw [hs1, Nat.add_mul]; omega⟩
     · cases h
   · cases h
 · rename_i id gn j o s len
   split at h
   · rename_i hss
     subst hss
     split at h
     · rename_i k hk
       obtain ⟨kd, z, rfl, h0, h1, rfl, hlt⟩ := idx_some hk
       obtain rfl := hi.int
       simp at h; subst h
       simp only [RV] at hv
       obtain ⟨hsp, a, cap, ar, rfl, hl, ho, hg, hy⟩ := hv
       obtain ⟨i, hi', hs'⟩ := hs
       obtain ⟨b0, o0, rfl, hz⟩ := hy (by omega)
       refine ⟨.pointer (some ⟨b0, o0 + z.toNat * s, none⟩), ?_, ?_⟩
       · simp [Instr.indexAt, run_underlying hu, asIntOf, h0, h1, Go.sizeOf, typeInfo, hi', hs', Addr.add_lit]
       · simp only [RV]
         refine ⟨b0, _, ar, rfl, ho, hg, fun e => ?_⟩
         obtain ⟨base, tot, hp, rfl⟩ := hz e
         exact ⟨base, tot, hp, by omega⟩
     · cases h
   · cases h
 · cases h
theorem ixp_sound {t e : TypeId} {len sz : Nat} (hu : P.underlying t = some (.array len e)) (hs : ∃ i, P.info? e = some i ∧ i.size = sz) {x i r : EV} {v vi : Value} (hv : RV g os x v) (hi : RV g os i vi)
 (h : ixpAt len sz x i = some r) :
 ∃ u, (Instr.indexAt t v vi).run P w = .ok u w ∧ RV g os r u := by
 unfold ixpAt at h
 obtain ⟨ie, hi', rfl⟩ := hs
 cases hk : idx i len with
 | none => simp [hk] at h
 | some k =>
  obtain ⟨kd, z, rfl, h0, h1, rfl, hlt⟩ := idx_some hk
  obtain rfl := hi.int
  simp only [hk] at h
  cases x <;> simp at h
  case ptr id gn j o =>
   subst h
   simp only [RV] at hv
   obtain ⟨b0, o0, ar, rfl, hos, hg, hx⟩ := hv
   refine ⟨.pointer (some ⟨b0, o0 + z.toNat * ie.size, none⟩), ?_, ?_⟩
   · simp [Instr.indexAt, run_underlying hu, asIntOf, Instr.sureAddr, h0, h1, Go.sizeOf, typeInfo, hi', Addr.add_lit]
   · simp only [RV]
     refine ⟨b0, _, ar, rfl, hos, hg, fun e => ?_⟩
     obtain ⟨base, tot, hp, he⟩ := hx e
     exact ⟨base, tot, hp, by omega⟩
  case cp cs o =>
   subst h
   simp only [RV] at hv
   obtain ⟨b, o0, rfl, hc⟩ := hv
   refine ⟨.pointer (some ⟨b, o0 + o + z.toNat * ie.size, none⟩), ?_, ?_⟩
   · simp [Instr.indexAt, run_underlying hu, asIntOf, Instr.sureAddr, h0, h1, Go.sizeOf, typeInfo, hi', Addr.add_lit]
   · simp only [RV]
     exact ⟨b, o0, by rw [Nat.add_assoc], hc⟩
theorem ixs_sound {t : TypeId} (hu : P.underlying t = some .string) {s : ByteArray} {i : EV} {vi : Value} (hi : RV g os i vi) {k : Nat} (hk : idx i s.size = some k) {b : UInt8} (hb : s[k]? = some b) :
 (Instr.index t (.string s) vi).run P w = .ok (.int .u8 b.toNat) w := by
 obtain ⟨kd, z, rfl, h0, h1, rfl, hlt⟩ := idx_some hk
 obtain rfl := hi.int
 simp [Instr.index, asIntOf, run_underlying hu, h0, hb]
theorem ixg_sound {t e : TypeId} {len sz : Nat} {ag : Bool} (hu : P.underlying t = some (.array len e)) (hT : TyIs P e ag sz) {cs : List EV} {i r : EV} {v vi : Value} (hv : RV g os (.agg cs) v) (hi : RV g os i vi) {k : Nat} (hk : idx i len = some k)
 (h : mk ag ((cs.drop (k * sz)).take sz) = some r) :
 ∃ u, (Instr.index t v vi).run P w = .ok u w ∧ RV g os r u := by
 obtain ⟨kd, z, rfl, h0, h1, rfl, hlt⟩ := idx_some hk
 obtain rfl := hi.int
 simp only [RV] at hv
 obtain ⟨vs, rfl, hvs⟩ := hv
 obtain ⟨u, hr, hu'⟩ := part_sound (P := P) (w := w) hT hvs h
 refine ⟨u, ?_, hu'⟩
 simp [Instr.index, asIntOf, run_underlying hu, h0, h1, hT.size, hr]
theorem RPl_sub {rd : Nat → Nat → Option Value} {b o sz : Nat} {xs : List PD} (h : RPl rd b o sz xs) (l n : Nat) : RPl rd b (o + l * sz) sz ((xs.drop l).take n) := by
 rw [RPl_get] at h ⊢
 intro i x hi
 rw [List.getElem?_take] at hi
 split at hi
 · rw [List.getElem?_drop] at hi
   have := h (l + i) x hi
   rwa [show o + (l + i) * sz = o + l * sz + i * sz by rw [Nat.add_mul]; omega] at this
 · cases hi
theorem run_bound {k : IntKind} {i : Int} {y : Nat} {c : BoundsCode} (h0 : 0 ≤ i) (h1 : i ≤ y) : (Instr.sliceBound (.int k i) y c).run P w = .ok i.toNat w := by
 simp [Instr.sliceBound, asIntOf, h0, h1]
def RO (g : Gh) (os : List Obj) : Option EV → Option Value → Prop
 | none, v => v = none
 | some e, v => ∃ u, v = some u ∧ RV g os e u
theorem bounds_some {n l h : Nat} {lo hi mx : Option EV} (e : bounds n lo hi mx = some (l, h)) : upper n hi = some h ∧ lower h lo = some l ∧ l ≤ h ∧ h ≤ n ∧ ∀ m, mx = some m → bound m n = some h ∧ hi.isSome := by
 unfold bounds at e
 cases eh : upper n hi with
 | none => simp [eh] at e
 | some h' =>
  simp only [eh] at e
  cases el : lower h' lo with
  | none => simp [el] at e
  | some l' =>
   simp only [el] at e
   have hh : h' ≤ n := by
    cases hi with
    | none => simp [upper] at eh; omega
    | some v => obtain ⟨_, _, _, _, _, _, q⟩ := bound_some eh; exact q
   have ll : l' ≤ h' := by
    cases lo with
    | none => simp [lower] at el; omega
    | some v => obtain ⟨_, _, _, _, _, _, q⟩ := bound_some el; exact q
   cases mx with
   | none => simp at e; obtain ⟨rfl, rfl⟩ := e; exact ⟨rfl, el, ll, hh, by simp⟩
   | some m =>
    simp at e
    obtain ⟨⟨hb, hs⟩, rfl, rfl⟩ := e
    refine ⟨rfl, el, ll, hh, fun m' hm => ?_⟩
    cases hm
    exact ⟨hb, by simpa [Option.isSome_iff_ne_none] using hs⟩
theorem run_lower {h l : Nat} {lo : Option EV} {vlo : Option Value} (hlo : RO g os lo vlo) (el : lower h lo = some l) (c : BoundsCode) :
 (match vlo with | some v => Instr.sliceBound v h c | none => pure 0).run P w = .ok l w := by
 cases lo with
 | none => simp only [RO] at hlo; subst hlo; simp [lower] at el; subst el; rfl
 | some e =>
  simp only [RO] at hlo
  obtain ⟨v, rfl, hv⟩ := hlo
  obtain ⟨kd, z, rfl, h0, h1, rfl, _⟩ := bound_some el
  obtain rfl := hv.int
  exact run_bound h0 h1
theorem bounds_sound {isS : Bool} {len cap : Nat} (hc : len ≤ cap) {lo hi mx : Option EV} {vlo vhi vmx : Option Value}
 (hlo : RO g os lo vlo) (hhi : RO g os hi vhi) (hmx : RO g os mx vmx) {l h : Nat} (e : bounds len lo hi mx = some (l, h)) :
 (Instr.sliceBounds isS len cap vlo vhi vmx).run P w = .ok (l, h, if mx.isSome then h else cap) w := by
 obtain ⟨eh, el, hll, hhl, em⟩ := bounds_some e
 have rl := fun c => run_lower (P := P) (w := w) hlo el c
 cases mx with
 | none =>
  simp only [RO] at hmx; subst hmx
  unfold Instr.sliceBounds
  cases hi with
  | none =>
   simp only [RO] at hhi; subst hhi
   simp [upper] at eh; subst eh
   have := rl .sliceB
   cases vlo <;> simp at this ⊢ <;> simp [this]
  | some v =>
   simp only [RO] at hhi
   obtain ⟨u, rfl, hu⟩ := hhi
   obtain ⟨kd, z, rfl, h0, h1, hz, _⟩ := bound_some eh
   obtain rfl := hu.int
   have hh := run_bound (P := P) (w := w) (k := kd) (c := if isS then .sliceAcap else .sliceAlen) h0 (show z ≤ (cap : Int) by omega)
   simp only [Sem.run_bind, Sem.run_pure, Result.andThen_ok]
   simp only [hh, Result.andThen_ok]
   have := rl .sliceB
   cases vlo <;> simp at this ⊢ <;> simp [this, ← hz]
 | some m =>
  simp only [RO] at hmx
  obtain ⟨vm, rfl, hvm⟩ := hmx
  obtain ⟨hbm, his⟩ := em m rfl
  obtain ⟨km, zm, rfl, hm0, hm1, hmz, _⟩ := bound_some hbm
  obtain rfl := hvm.int
  cases hi with
  | none => simp at his
  | some v =>
   simp only [RO] at hhi
   obtain ⟨u, rfl, hu⟩ := hhi
   obtain ⟨kd, z, rfl, h0, h1, hz, _⟩ := bound_some eh
   obtain rfl := hu.int
   unfold Instr.sliceBounds
   simp only [Sem.run_bind, run_bound hm0 (show zm ≤ (cap : Int) by omega), Result.andThen_ok]
   rw [run_bound h0 (by omega)]
   simp only [Result.andThen_ok]
   have := rl .slice3C
   rw [← hz]
   cases vlo <;> simp at this ⊢ <;> simp [this, ← hmz]
theorem sized_get {sz : Nat} {xs : List PD} (h : sized sz xs = true) {i : Nat} {x : PD} (hx : xs[i]? = some x) : x.cells.length = sz := by
 unfold sized at h
 rw [List.all_eq_true] at h
 simpa using h x (List.mem_of_getElem? hx)
theorem slc_list {t e : TypeId} {ie : TypeInfo} (hu : P.underlying t = some (.slice e)) (hie : P.info? e = some ie) {xs : List PD} {v : Value} (hp : RP g.rd (.list xs) v) (hz : sized ie.size xs = true)
 {lo hi mx : Option EV} {vlo vhi vmx : Option Value} (hlo : RO g os lo vlo) (hhi : RO g os hi vhi) (hmx : RO g os mx vmx) {l h : Nat} (hb : bounds xs.length lo hi mx = some (l, h)) :
 ∃ a c, (Instr.sliceAt t v vlo vhi vmx).run P w = .ok (.slice a (h - l) c) w ∧ RP g.rd (.list (sliceEls xs l h)) (.slice a (h - l) c) ∧ (mx.isSome → c = h - l) ∧ (sliceEls xs l h).length = h - l ∧ (∀ a0 cap0, v = .slice a0 xs.length cap0 → mx.isSome = false → c = cap0 - l) := by
 obtain ⟨_, _, hll, hhl, _⟩ := bounds_some hb
 simp only [RP] at hp
 obtain ⟨a, cap, rfl, hl, hq⟩ := hp
 have hbb := bounds_sound (P := P) (w := w) (isS := true) hl hlo hhi hmx hb
 have hlen : (sliceEls xs l h).length = h - l := by simp [sliceEls]; omega
 refine ⟨if (if mx.isSome then h else cap) = l then a else a.map (·.add (l * ie.size)), (if mx.isSome then h else cap) - l, ?_, ?_, ?_, hlen, fun a0 cap0 e hm => by cases e; simp [hm]⟩
 · simp [Instr.sliceAt, run_underlying hu, Instr.slice, hbb, Go.sizeOf, typeInfo, hie]
 · simp only [RP]
   refine ⟨_, _, by rw [hlen], by rw [hlen]; split <;> omega, ?_⟩
   by_cases h0 : h - l = 0
   · exact .inl (List.eq_nil_of_length_eq_zero (by rw [hlen]; exact h0))
   · rcases hq with rfl | ⟨b, o, sz', rfl, hsp, hc⟩
     · simp at hhl; omega
     · have hne : ¬ ((if mx.isSome = true then h else cap) = l) := by split <;> omega
       have hx0 : xs[0]? = some (xs[0]'(by omega)) := by simp
       have e1 := (RPl_get.1 hc 0 _ hx0).1
       have e2 := sized_get hz hx0
       have : sz' = ie.size := by omega
       subst this
       refine .inr ⟨b, o + l * ie.size, ie.size, by simp [hne, Addr.add_lit], hsp, RPl_sub hc l (h - l)⟩
 · intro hm; simp [hm]
theorem slc_sound {t e : TypeId} {sz : Nat} (hu : P.underlying t = some (.slice e)) (hs : ∃ i, P.info? e = some i ∧ i.size = sz) {x r : EV} {v : Value} (hv : RV g os x v) {lo hi mx : Option EV} {vlo vhi vmx : Option Value}
 (hlo : RO g os lo vlo) (hhi : RO g os hi vhi) (hmx : RO g os mx vmx) (hr : sliceOf sz x lo hi mx = some r) :
 ∃ u, (Instr.sliceAt t v vlo vhi vmx).run P w = .ok u w ∧ RV g os r u := by
 obtain ⟨ie, hie, rfl⟩ := hs
 have lists : ∀ (f : Bool) xs, RP g.rd (.list xs) v → (f = true → ∃ a, v = .slice a xs.length xs.length) → (if sized ie.size xs then match bounds xs.length lo hi mx with
  | some (l, h) => some (if mx.isSome || (f && decide (h = xs.length)) then EV.full (sliceEls xs l h) else .p (.list (sliceEls xs l h)))
  | none => none else none) = some r → ∃ u, (Instr.sliceAt t v vlo vhi vmx).run P w = .ok u w ∧ RV g os r u := by
  intro f xs hp hfull hr
  split at hr
  · rename_i hz
    split at hr
    · rename_i l h hb
      obtain ⟨a, c, h1, h2, h3, h4, h5⟩ := slc_list (P := P) (w := w) hu hie hp hz hlo hhi hmx hb
      refine ⟨_, h1, ?_⟩
      simp at hr; subst hr
      split
      · rename_i hm
        simp only [RV]
        refine ⟨h2, a, ?_⟩
        rw [h4]
        cases hmx' : mx.isSome with
        | true => rw [h3 hmx']
        | false =>
         rw [hmx'] at hm
         simp at hm
         obtain ⟨a0, e0⟩ := hfull hm.1
         rw [h5 a0 xs.length e0 hmx', ← hm.2]
      · simpa [RV] using h2
    · cases hr
  · cases hr
 unfold sliceOf at hr
 cases x with
 | p x => cases x with
  | list xs => exact lists false xs hv.list_cases (fun h => by cases h) (by simp only [Bool.false_and, Bool.or_false]; exact hr)
  | _ => simp at hr
 | full xs => simp only [RV] at hv; exact lists true xs hv.1 (fun _ => hv.2) (by simp only [Bool.true_and]; exact hr)
 | arr id gn s off len f =>
  simp only at hr
  split at hr
  · rename_i hss
    subst hss
    split at hr
    · rename_i l h hb
      obtain ⟨_, _, hll, hhl, _⟩ := bounds_some hb
      simp only [RV] at hv
      obtain ⟨hsp, a, cap, ar, rfl, hl, ho, hg, hx, hy⟩ := hv
      have hbb := bounds_sound (P := P) (w := w) (isS := true) hl hlo hhi hmx hb
      obtain ⟨c', hc', hc1, hc2, hc3, hc4⟩ : ∃ c', (if mx.isSome = true then h else cap) = c' ∧ c' ≤ cap ∧ h ≤ c' ∧ (mx.isSome = true → c' = h) ∧ (mx.isSome = false → c' = cap) :=
       ⟨_, rfl, by split <;> omega, by split <;> omega, by intro q; simp [q], by intro q; simp [q]⟩
      rw [hc'] at hbb
      refine ⟨.slice (if c' = l then a else a.map (·.add (l * ie.size))) (h - l) (c' - l), ?_, ?_⟩
      · simp [Instr.sliceAt, run_underlying hu, Instr.slice, hbb, Go.sizeOf, typeInfo, hie]
      · simp at hr; subst hr
        split
        · rename_i hc
          obtain ⟨hm, rfl⟩ := hc
          have := hc3 hm
          subst this
          simp [RV, RP]
        · rename_i hc
          simp only [RV]
          refine ⟨hsp, _, _, ar, rfl, by omega, ho, hg, fun e => ?_, fun hpos => ?_⟩
          · obtain ⟨h1, h2⟩ := hx e
            refine ⟨h1, fun hf => ?_⟩
            simp at hf
            rcases hf with hf | ⟨hf, rfl⟩
            · rw [hc3 hf]
            · have := h2 hf
              omega
          · have hcap : 0 < cap := by clear hy hx; omega
            have hne : ¬ (c' = l) := by clear hy hx; omega
            obtain ⟨b0, o0, rfl, hz⟩ := hy hcap
            refine ⟨b0, o0 + l * ie.size, by simp [hne, Addr.add_lit], fun e => ?_⟩
            obtain ⟨base, tot, hp, rfl, ht⟩ := hz e
            have e1 : off + l + (c' - l) ≤ tot := by clear hz hy hx; omega
            exact ⟨base, tot, hp, by rw [Nat.add_mul, Nat.add_assoc], e1⟩
    · cases hr
  · cases hr
 | _ => simp at hr
theorem sla_sound {t e : TypeId} {n sz : Nat} (hu : P.underlying t = some (.array n e)) (hs : ∃ i, P.info? e = some i ∧ i.size = sz) (hsp : 0 < sz) {x r : EV} {v : Value} (hv : RV g os x v) {lo hi : Option EV} {vlo vhi : Option Value}
 (hlo : RO g os lo vlo) (hhi : RO g os hi vhi) (hr : sliceArr n sz x lo hi = some r) :
 ∃ u, (Instr.sliceAt t v vlo vhi none).run P w = .ok u w ∧ RV g os r u := by
 obtain ⟨ie, hie, rfl⟩ := hs
 unfold sliceArr at hr
 cases x with
 | ptr id gn j o =>
  simp only at hr
  split at hr
  · rename_i l h hb
    obtain ⟨_, _, hll, hhl, _⟩ := bounds_some hb
    have hbb := bounds_sound (P := P) (w := w) (isS := false) (Nat.le_refl n) hlo hhi (mx := none) (vmx := none) (by simp [RO]) hb
    simp at hr; subst hr
    simp only [RV] at hv
    obtain ⟨b0, o0, ar, rfl, ho, hg, hx⟩ := hv
    refine ⟨.slice (some (if n = l then ⟨b0, o0, none⟩ else ⟨b0, o0 + l * ie.size, none⟩)) (h - l) (n - l), ?_, ?_⟩
    · simp [Instr.sliceAt, run_underlying hu, Instr.sureAddr, hbb, Go.sizeOf, typeInfo, hie, Addr.add_lit]
    · simp only [RV]
      refine ⟨hsp, _, _, ar, rfl, by omega, ho, hg, fun hpos => ?_⟩
      have hne : ¬ n = l := by omega
      refine ⟨b0, o0 + l * ie.size, by simp [hne], fun e => ?_⟩
      obtain ⟨base, tot, hp, he⟩ := hx e
      exact ⟨base, tot, hp, by omega⟩
  · cases hr
 | cp cs o =>
  simp only at hr
  split at hr
  · split at hr
    · rename_i hc
      obtain ⟨h1, h2, h3⟩ := hc
      cases hr
      simp only [RO] at hlo hhi
      subst hlo hhi
      simp only [RV] at hv
      obtain ⟨b, o0, rfl, hcs⟩ := hv
      have hb : bounds n none none none = some (0, n) := by simp [bounds, upper, lower]
      have hbb := bounds_sound (P := P) (w := w) (g := g) (os := os) (isS := false) (Nat.le_refl n) (lo := none) (vlo := none) (by simp [RO]) (hi := none) (vhi := none) (by simp [RO]) (mx := none) (vmx := none) (by simp [RO]) hb
      refine ⟨.slice (some ⟨b, o0 + o, none⟩) n n, ?_, ?_⟩
      · simp [Instr.sliceAt, run_underlying hu, Instr.sureAddr, hbb, Go.sizeOf, typeInfo, hie, Addr.add_lit]
      · have hl : ((cs.drop o).take n).length = n := by simp; omega
        simp only [RV, RP]
        refine ⟨⟨some ⟨b, o0 + o, none⟩, n, by rw [hl], by rw [hl]; exact Nat.le_refl _, .inr ⟨b, o0 + o, 1, rfl, by omega, RPl_get.2 fun i x hx => ?_⟩⟩, some ⟨b, o0 + o, none⟩, by rw [hl]⟩
        rw [List.getElem?_take] at hx
        split at hx
        · rw [List.getElem?_drop] at hx
          have hs : x.cells = [x] := by
           have := List.all_eq_true.1 h3 x (List.mem_of_getElem? hx)
           cases x <;> simp [PD.scal] at this <;> rfl
          rw [hs]
          refine ⟨rfl, RPcs_get.2 fun j c hj => ?_⟩
          cases j with
          | zero =>
           simp at hj
           subst hj
           have := RPcs_get.1 hcs (o + i) x hx
           rwa [show o0 + (o + i) = o0 + o + i * 1 + 0 by omega] at this
          | succ j => simp at hj
        · cases hx
    · cases hr
  · cases hr
 | _ => simp at hr
theorem sls_sound {t : TypeId} (hu : P.underlying t = some .string) {x r : EV} {v : Value} (hv : RV g os x v) {lo hi : Option EV} {vlo vhi : Option Value}
 (hlo : RO g os lo vlo) (hhi : RO g os hi vhi) (hr : sliceStr x lo hi = some r) :
 ∃ u, (Instr.sliceAt t v vlo vhi none).run P w = .ok u w ∧ RV g os r u := by
 unfold sliceStr at hr
 cases x with
 | p x => cases x with
  | str s =>
   simp only at hr
   split at hr
   · rename_i l h hb
     obtain rfl := hv.str
     have hbb := bounds_sound (P := P) (w := w) (isS := false) (Nat.le_refl _) hlo hhi (mx := none) (vmx := none) (by simp [RO]) hb
     simp at hr; subst hr
     exact ⟨.string (s.extract l h), by simp [Instr.sliceAt, run_underlying hu, Instr.slice, hbb], by simp [RV, RP]⟩
   · cases hr
  | _ => simp at hr
 | _ => simp at hr
end Dk
namespace Dk
open Go Go.RowKit
variable [Globs] [SiteRel] {P : Program} {B : Nat} {w0 w : World} {g : Gh} {os : List Obj}
theorem int_sound {op : BinOp} {k : IntKind} {a b : Int} {t : TypeId} {r : PD} (h1 : op ≠ .shl) (h2 : op ≠ .shr) (h : intBin op k a b = some r) :
 ∃ u, (Go.binOp op t (.int k a) (.int k b)).run P w = .ok u w ∧ RP g.rd r u := by
 cases op <;> simp [intBin] at h h1 h2
 case quo =>
  obtain ⟨hb, rfl⟩ := h
  exact ⟨_, by simp [Go.binOp, Op.intDiv, hb]; rfl, by simp [RP]⟩
 case rem =>
  obtain ⟨hb, rfl⟩ := h
  exact ⟨_, by simp [Go.binOp, Op.intDiv, hb]; rfl, by simp [RP]⟩
 all_goals
  subst h
  exact ⟨_, by simp [Go.binOp, Op.intArith, Op.intBits, Op.intCmp]; rfl, by simp [RP]⟩
theorem shift_sound {op : BinOp} {k k' : IntKind} {a b : Int} {t : TypeId} {r : PD} (h1 : op = .shl ∨ op = .shr) (h : intShift op k a b = some r) :
 ∃ u, (Go.binOp op t (.int k a) (.int k' b)).run P w = .ok u w ∧ RP g.rd r u := by
 unfold intShift at h
 split at h
 · cases h
 · rename_i hb
   rcases h1 with rfl | rfl <;> simp at h <;> subst h <;> exact ⟨_, by simp [Go.binOp, Op.shift, hb]; rfl, by simp [RP]⟩
theorem str_sound {op : BinOp} {a b : ByteArray} {t : TypeId} {r : PD} (h : strBin op a b = some r) :
 ∃ u, (Go.binOp op t (.string a) (.string b)).run P w = .ok u w ∧ RP g.rd r u := by
 cases op <;> simp [strBin] at h
 case add =>
  obtain ⟨hs, rfl⟩ := h
  have hm : ¬ (((a.size + b.size : Nat) : Int) > IntKind.i64.max) := by
   have : IntKind.i64.max = 9223372036854775807 := by decide
   rw [this]; omega
  refine ⟨.string (a ++ b), ?_, by simp [RP]⟩
  simp only [Go.binOp, Op.stringOp]
  rw [if_neg hm]
  rfl
 all_goals
  subst h
  exact ⟨_, by simp [Go.binOp, Op.stringOp]; rfl, by simp [RP]⟩
def eqFields (F : TypeId → Option (List CK)) : List Field → Nat → Option (List CK)
 | [], _ => some []
 | f :: r, o => if f.name ≠ "_" ∧ f.offset = o then match F f.type with
  | some m => if m.isEmpty then none else (eqFields F r (o + m.length)).map (m ++ ·)
  | none => none
  else none
def eqFlatT (F : TypeId → Option (List CK)) (P : Program) (t : TypeId) : Option (List CK) :=
 match P.underlying t with
 | some (.int _) => some [.int]
 | some .bool => some [.bool]
 | some .string => some [.str]
 | some (.struct fs) => if P.stoodInHeld t = false then eqFields F fs.toList 0 else none
 | some (.array len e) => match F e with
  | some m => if m.isEmpty then none else some (List.replicate len m).flatten
  | none => none
 | _ => none
def eqFlat (P : Program) : Nat → TypeId → Option (List CK)
 | 0, _ => none
 | d + 1, t => match eqFlatT (eqFlat P d) P t with
  | some ks => if (P.info? t).map (·.size) = some ks.length then some ks else none
  | none => none
def mkV (ag : Bool) (us : List Value) : Value := if ag then .agg us.toArray else us.headD undef
theorem cellsEq_nil {as bs : List EV} {r : Bool} (h : cellsEq [] as bs = some r) : as = [] ∧ bs = [] ∧ r = true := by
 cases as <;> cases bs <;> simp [cellsEq] at h; exact ⟨rfl, rfl, h⟩
theorem cellsEq_cons {c : CK} {cs : List CK} {as bs : List EV} {r : Bool} (h : cellsEq (c :: cs) as bs = some r) :
 ∃ a as' b bs' r1 r2, as = a :: as' ∧ bs = b :: bs' ∧ cellEq c a b = some r1 ∧ cellsEq cs as' bs' = some r2 ∧ r = (r1 && r2) := by
 cases as with
 | nil => cases bs <;> simp [cellsEq] at h
 | cons a as =>
  cases bs with
  | nil => simp [cellsEq] at h
  | cons b bs =>
   rw [cellsEq] at h
   split at h
   · rename_i x e
     split at h
     · rename_i y e2; simp at h; exact ⟨a, as, b, bs, x, y, rfl, rfl, e, e2, h.symm⟩
     · cases h
   · cases h
theorem cellsEq_append : ∀ {ks ks' : List CK} {as bs : List EV} {r : Bool}, cellsEq (ks ++ ks') as bs = some r →
 ∃ r1 r2, cellsEq ks (as.take ks.length) (bs.take ks.length) = some r1 ∧ cellsEq ks' (as.drop ks.length) (bs.drop ks.length) = some r2 ∧ r = (r1 && r2)
 | [], ks', as, bs, r, h => ⟨true, r, by simp [cellsEq], by simpa using h, by simp⟩
 | c :: ks, ks', as, bs, r, h => by
  obtain ⟨a, as', b, bs', r1, r2, rfl, rfl, h1, h2, rfl⟩ := cellsEq_cons (by simpa using h)
  obtain ⟨q1, q2, h3, h4, rfl⟩ := cellsEq_append h2
  refine ⟨r1 && q1, q2, ?_, by simpa using h4, by simp [Bool.and_assoc]⟩
  simp only [List.length_cons, List.take_succ_cons, cellsEq, h1, h3]
theorem cellsEq_len : ∀ {ks : List CK} {as bs : List EV} {r : Bool}, cellsEq ks as bs = some r → as.length = ks.length ∧ bs.length = ks.length
 | [], as, bs, r, h => by simp [(cellsEq_nil h).1, (cellsEq_nil h).2.1]
 | c :: ks, as, bs, r, h => by
  obtain ⟨a, as', b, bs', r1, r2, rfl, rfl, h1, h2, rfl⟩ := cellsEq_cons h
  have := cellsEq_len h2
  simp [this]
theorem cellEq_vals {c : CK} {a b : EV} {r : Bool} (h : cellEq c a b = some r) {u v : Value} (hu : RV g os a u) (hv : RV g os b v) :
 (c = .int ∧ ∃ k x y, u = .int k x ∧ v = .int k y ∧ r = (x == y)) ∨ (c = .bool ∧ ∃ x y, u = .bool x ∧ v = .bool y ∧ r = (x == y)) ∨ (c = .str ∧ ∃ x y, u = .string x ∧ v = .string y ∧ r = (x.toList == y.toList)) := by
 unfold cellEq at h
 split at h
 · split at h
   · rename_i j a k b e
     simp at h; subst h; subst e
     exact .inl ⟨rfl, _, _, _, hu.int, hv.int, rfl⟩
   · cases h
 · simp at h; subst h
   exact .inr (.inl ⟨rfl, _, _, hu.bool, hv.bool, rfl⟩)
 · simp at h; subst h
   exact .inr (.inr ⟨rfl, _, _, hu.str, hv.str, rfl⟩)
 · cases h
theorem run_part {t : TypeId} {ag : Bool} {n : Nat} (hT : TyIs P t ag n) {vs : Array Value} {off : Nat} (hle : off + n ≤ vs.size) (h1 : ag = false → n = 1) :
 (part t vs off).run P w = .ok (mkV ag ((vs.toList.drop off).take n)) w := by
 unfold part mkV
 cases ag with
 | true =>
  simp only [Sem.run_bind, hT.agg, Result.andThen_ok, if_true, hT.size, Sem.run_pure]
  congr 2
  apply Array.ext'
  simp only [Array.toList_extract, List.extract_eq_take_drop]
  rw [show off + n - off = n by omega]
 | false =>
  have h2 := h1 rfl
  subst h2
  simp only [Sem.run_bind, hT.agg, Result.andThen_ok, Bool.false_eq_true, if_false]
  have hlt : off < vs.size := by omega
  rw [Array.getElem?_eq_getElem hlt]
  simp only [Sem.run_pure]
  congr 1
  rw [List.headD_eq_head?_getD, List.head?_eq_getElem?, List.getElem?_take, if_pos (by omega), List.getElem?_drop]
  simp [hlt]
theorem flat_some {d : Nat} {ks : List CK} {t : TypeId} (h : eqFlat P d t = some ks) : ∃ d', d = d' + 1 ∧ eqFlatT (eqFlat P d') P t = some ks ∧ (P.info? t).map (·.size) = some ks.length := by
 cases d with
 | zero => simp [eqFlat] at h
 | succ d =>
  rw [eqFlat] at h
  split at h
  · rename_i m hm
    split at h
    · rename_i hs
      simp at h; subst h
      exact ⟨d, rfl, hm, hs⟩
    · cases h
  · cases h
theorem flat_ty {d : Nat} {ks : List CK} {t : TypeId} (h : eqFlat P d t = some ks) : ∃ ag, (ag = false → ks.length = 1) ∧ TyIs P t ag ks.length := by
 obtain ⟨d', rfl, h1, h2⟩ := flat_some h
 have hi : ∃ i, P.info? t = some i ∧ i.size = ks.length := by
  cases e : P.info? t with
  | none => simp [e] at h2
  | some i => exact ⟨i, rfl, by simpa [e] using h2⟩
 unfold eqFlatT at h1
 split at h1
 · rename_i k hu; simp at h1; subst h1; exact ⟨false, fun _ => rfl, hi, _, hu, rfl⟩
 · rename_i hu; simp at h1; subst h1; exact ⟨false, fun _ => rfl, hi, _, hu, rfl⟩
 · rename_i hu; simp at h1; subst h1; exact ⟨false, fun _ => rfl, hi, _, hu, rfl⟩
 · rename_i fs hu; exact ⟨true, by simp, hi, _, hu, rfl⟩
 · rename_i l e hu; exact ⟨true, by simp, hi, _, hu, rfl⟩
 · cases h1
def EqOK (P : Program) (w : World) (d : Nat) : Prop := ∀ (t : TypeId) (ks : List CK), eqFlat P d t = some ks → ∀ ag, TyIs P t ag ks.length → ∀ (g : Gh) (os : List Obj) (es fs : List EV) (us vs : List Value), RVs g os es us → RVs g os fs vs → ∀ r, cellsEq ks es fs = some r →
 ∀ d', d ≤ d' → (Op.equalIn d' t (mkV ag us) (mkV ag vs)).run P w = .ok r w
theorem eqFields_ok {d : Nat} (ih : EqOK P w d) {g : Gh} {os : List Obj} {es fs : List EV} {us vs : List Value} (hu : RVs g os es us) (hv : RVs g os fs vs) {d' : Nat} (hd : d ≤ d') :
 ∀ (fl : List Field) (o : Nat) (ks : List CK), eqFields (eqFlat P d) fl o = some ks → ∀ r, cellsEq ks (es.drop o) (fs.drop o) = some r → (Op.eqFields d' us.toArray vs.toArray fl).run P w = .ok r w
 | [], o, ks, h, r, hr => by
  simp [eqFields] at h
  subst h
  obtain ⟨_, _, rfl⟩ := cellsEq_nil hr
  simp [Op.eqFields]
 | f :: fl, o, ks, h, r, hr => by
  rw [eqFields] at h
  split at h
  · rename_i hf
    obtain ⟨hf1, rfl⟩ := hf
    split at h
    · rename_i m hm
      split at h
      · cases h
      · rename_i hm0
        simp only [Option.map_eq_some_iff] at h
        obtain ⟨ks', h, rfl⟩ := h
        have hmp : 0 < m.length := List.length_pos_iff.2 (by simpa using hm0)
        obtain ⟨ag, ha, hT⟩ := flat_ty hm
        have hlu := (RVs_get.1 hu).1
        have hlv := (RVs_get.1 hv).1
        obtain ⟨l1, l2⟩ := cellsEq_len hr
        obtain ⟨r1, r2, h1, h2, rfl⟩ := cellsEq_append hr
        rw [List.drop_drop, List.drop_drop] at h2
        simp only [List.length_drop, List.length_append] at l1 l2
        have p1 := run_part (P := P) (w := w) hT (vs := us.toArray) (off := f.offset) (by simp; omega) ha
        have p2 := run_part (P := P) (w := w) hT (vs := vs.toArray) (off := f.offset) (by simp; omega) ha
        have p3 := ih f.type m hm ag hT g os _ _ _ _ (RVs_sub hu f.offset m.length) (RVs_sub hv f.offset m.length) r1 h1 d' hd
        have p4 := eqFields_ok ih hu hv hd fl (f.offset + m.length) ks' h r2 h2
        simp only [Op.eqFields, hf1, ne_eq, not_false_eq_true, if_true, Sem.run_bind, p1, p2, Result.andThen_ok]
        rw [p3]
        cases r1 <;> simp [p4]
    · cases h
  · cases h
theorem eqItems_ok {d : Nat} (ih : EqOK P w d) {g : Gh} {os : List Obj} {es fs : List EV} {us vs : List Value} (hu : RVs g os es us) (hv : RVs g os fs vs) {d' : Nat} (hd : d ≤ d') {e : TypeId} {m : List CK} (hm : eqFlat P d e = some m) (hm0 : 0 < m.length) :
 ∀ (k i : Nat) (r : Bool), cellsEq (List.replicate k m).flatten (es.drop (i * m.length)) (fs.drop (i * m.length)) = some r → (Op.eqItems d' e m.length us.toArray vs.toArray (List.range' i k)).run P w = .ok r w
 | 0, i, r, hr => by
  obtain ⟨_, _, rfl⟩ := cellsEq_nil (by simpa using hr)
  simp [Op.eqItems]
 | k + 1, i, r, hr => by
  obtain ⟨ag, ha, hT⟩ := flat_ty hm
  have hlu := (RVs_get.1 hu).1
  have hlv := (RVs_get.1 hv).1
  rw [List.replicate_succ, List.flatten_cons] at hr
  obtain ⟨l1, l2⟩ := cellsEq_len hr
  obtain ⟨r1, r2, h1, h2, rfl⟩ := cellsEq_append hr
  rw [List.drop_drop, List.drop_drop, show i * m.length + m.length = (i + 1) * m.length by rw [Nat.add_mul]; omega] at h2
  simp only [List.length_drop, List.length_append] at l1 l2
  have p1 := run_part (P := P) (w := w) hT (vs := us.toArray) (off := i * m.length) (by simp; omega) ha
  have p2 := run_part (P := P) (w := w) hT (vs := vs.toArray) (off := i * m.length) (by simp; omega) ha
  have p3 := ih e m hm ag hT g os _ _ _ _ (RVs_sub hu (i * m.length) m.length) (RVs_sub hv (i * m.length) m.length) r1 h1 d' hd
  have p4 := eqItems_ok ih hu hv hd hm hm0 k (i + 1) r2 h2
  rw [List.range'_succ]
  simp only [Op.eqItems, Sem.run_bind, p1, p2, Result.andThen_ok]
  rw [p3]
  cases r1 <;> simp [p4]
theorem eq_ok : ∀ (d : Nat), EqOK P w d
 | 0 => fun t n h => by simp [eqFlat] at h
 | d + 1 => by
  intro t ks h ag hT g os es fs us vs hu hv r hr d' hd
  have ih := eq_ok d
  obtain ⟨d1, e, h1, h2⟩ := flat_some h
  obtain rfl : d = d1 := by omega
  obtain ⟨d2, rfl⟩ : ∃ d2, d' = d2 + 1 := ⟨d' - 1, by omega⟩
  have scalar : ∀ c, ks = [c] → ∃ u v, us = [u] ∧ vs = [v] ∧ ((c = .int ∧ ∃ k x y, u = .int k x ∧ v = .int k y ∧ r = (x == y)) ∨ (c = .bool ∧ ∃ x y, u = .bool x ∧ v = .bool y ∧ r = (x == y)) ∨ (c = .str ∧ ∃ x y, u = .string x ∧ v = .string y ∧ r = (x.toList == y.toList))) := by
   intro c hc
   subst hc
   obtain ⟨a, as', b, bs', r1, r2, rfl, rfl, q1, q2, rfl⟩ := cellsEq_cons hr
   obtain ⟨rfl, rfl, rfl⟩ := cellsEq_nil q2
   simp only [RVs] at hu hv
   obtain ⟨u, us', rfl, hu, rfl⟩ := hu
   obtain ⟨v, vs', rfl, hv, rfl⟩ := hv
   exact ⟨u, v, rfl, rfl, by simpa using cellEq_vals q1 hu hv⟩
  obtain ⟨_, dd, hdd, hag⟩ := hT
  unfold eqFlatT at h1
  split at h1
  · rename_i k hk
    simp at h1
    rw [hk] at hdd; cases hdd
    subst hag
    obtain ⟨u, v, rfl, rfl, q⟩ := scalar .int h1.symm
    simp at q
    obtain ⟨k, x, rfl, y, rfl, rfl⟩ := q
    simp [mkV, Op.equalIn, run_underlying hk]
  · rename_i hk
    simp at h1
    rw [hk] at hdd; cases hdd
    subst hag
    obtain ⟨u, v, rfl, rfl, q⟩ := scalar .bool h1.symm
    rcases q with ⟨hc, _⟩ | ⟨_, x, y, rfl, rfl, rfl⟩ | ⟨hc, _⟩
    · cases hc
    · simp [mkV, Op.equalIn, run_underlying hk]
    · cases hc
  · rename_i hk
    simp at h1
    rw [hk] at hdd; cases hdd
    subst hag
    obtain ⟨u, v, rfl, rfl, q⟩ := scalar .str h1.symm
    rcases q with ⟨hc, _⟩ | ⟨hc, _⟩ | ⟨_, x, y, rfl, rfl, rfl⟩
    · cases hc
    · cases hc
    · simp [mkV, Op.equalIn, run_underlying hk, beq_toListBytes]
  · rename_i fl hk
    rw [hk] at hdd; cases hdd
    subst hag
    split at h1
    · rename_i hst
      have hk' : P.underlying t = some (.struct (P.fieldsOf t)) := by rw [hk]; simp [Program.fieldsOf, hk]
      have hfl : P.fieldsOf t = fl := by simp [Program.fieldsOf, hk]
      simp only [mkV, if_true]
      rw [run_equalIn_struct w d2 t _ _ hk' hst, hfl]
      exact eqFields_ok ih hu hv (by omega) fl.toList 0 ks h1 r (by simpa using hr)
    · cases h1
  · rename_i len e hk
    rw [hk] at hdd; cases hdd
    subst hag
    split at h1
    · rename_i m hm
      split at h1
      · cases h1
      · rename_i hm0
        have hmp : 0 < m.length := List.length_pos_iff.2 (by simpa using hm0)
        simp at h1
        subst h1
        obtain ⟨d3, _, _, hs⟩ := flat_some hm
        have hi : ∃ i, P.info? e = some i ∧ i.size = m.length := by
         cases e' : P.info? e with
         | none => simp [e'] at hs
         | some i => exact ⟨i, rfl, by simpa [e'] using hs⟩
        obtain ⟨i, hi, hsz⟩ := hi
        have hc : P.cellsOf e = m.length := by simp [Program.cellsOf, hi, hsz]
        simp only [mkV, if_true]
        rw [run_equalIn_array w d2 _ _ hk hi, hc, List.range_eq_range']
        exact eqItems_ok ih hu hv (by omega) hm hmp len 0 r (by simpa using hr)
    · cases h1
  · cases h1
def EqTy (P : Program) (t : TypeId) : EK → Prop
 | .none => True
 | .bool => P.underlying t = some .bool
 | .cells ks => eqFlat P 100 t = some ks ∧ TyIs P t true ks.length ∧ P.eqGuardType P.depth t = false
 | .ptr => ∃ e, P.underlying t = some (.pointer e)
 | .fn => ∃ a b c, P.underlying t = some (.func a b c)
 | .map => ∃ k e, P.underlying t = some (.map k e)
theorem guard_plain {op : BinOp} {t : TypeId} {X Y : Operand} {u v : Value} (h : (u = .nilIface ∧ v = .nilIface) → False) (h2 : ∀ a b, u = .agg a → v = .agg b → P.eqGuardType P.depth t = false) :
 (eqGuard op t X Y u v).run P w = .ok () w := by
 unfold eqGuard
 cases op
 case eql | neq =>
  simp only [Bool.not_true, Bool.false_eq_true, if_false]
  split
  · exact absurd ⟨rfl, rfl⟩ h
  · rename_i a b
    simp [h2 a b rfl rfl]
  · rfl
 all_goals rfl
theorem run_equal_of {t : TypeId} {u v : Value} {b : Bool} (h : (Op.equalIn (9999 + 1) t u v).run P w = .ok b w) : (Op.equal t u v).run P w = .ok b w := h
theorem eq_nilptr {t e : TypeId} (ht : P.underlying t = some (.pointer e)) (a : Option Addr) : (Op.equal t (.pointer none) (.pointer a)).run P w = .ok a.isNone w ∧ (Op.equal t (.pointer a) (.pointer none)).run P w = .ok a.isNone w := by
 constructor
 · apply run_equal_of
   rw [Op.equalIn]
   simp only [Sem.run_bind, run_underlying ht, Result.andThen_ok]
   cases a <;> rfl
 · apply run_equal_of
   rw [Op.equalIn]
   simp only [Sem.run_bind, run_underlying ht, Result.andThen_ok]
   cases a <;> rfl
theorem evEq_sound {ek : EK} {t : TypeId} (ht : EqTy P t ek) {x y : EV} {b : Bool} (h : evEq ek x y = some b) {u v : Value} (hu : RV g os x u) (hv : RV g os y v) :
 (Op.equal t u v).run P w = .ok b w ∧ ((u = .nilIface ∧ v = .nilIface) → False) ∧ (∀ c d, u = .agg c → v = .agg d → P.eqGuardType P.depth t = false) := by
 have fnil : ∀ f a b, (∃ a b c, P.underlying t = some (.func a b c)) → (Op.equal t .nilFunc .nilFunc).run P w = .ok true w ∧ (Op.equal t .nilFunc (.func f a b)).run P w = .ok false w ∧ (Op.equal t (.func f a b) .nilFunc).run P w = .ok false w := by
  rintro f a b ⟨x, y, z, ht⟩
  refine ⟨?_, ?_, ?_⟩ <;> apply run_equal_of <;> rw [Op.equalIn] <;> simp only [Sem.run_bind, run_underlying ht, Result.andThen_ok] <;> rfl
 have mnil : ∀ a, (∃ k e, P.underlying t = some (.map k e)) → (Op.equal t (.map none) (.map a)).run P w = .ok a.isNone w ∧ (Op.equal t (.map a) (.map none)).run P w = .ok a.isNone w := by
  rintro a ⟨k, e, ht⟩
  refine ⟨?_, ?_⟩ <;> apply run_equal_of <;> rw [Op.equalIn] <;> simp only [Sem.run_bind, run_underlying ht, Result.andThen_ok] <;> cases a <;> rfl
 unfold evEq at h
 split at h <;> (try simp only [Option.some.injEq, reduceCtorEq] at h) <;> simp only [EqTy] at ht
 · subst h
   rw [hu.bool, hv.bool]
   exact ⟨run_equal_bool w t _ _ ht, by simp, by simp⟩
 · rename_i ks as bs
   simp only [RV] at hu hv
   obtain ⟨us, rfl, hu⟩ := hu
   obtain ⟨vs, rfl, hv⟩ := hv
   refine ⟨?_, by simp, fun _ _ _ _ => ht.2.2⟩
   have := eq_ok (P := P) (w := w) 100 t ks ht.1 true ht.2.1 g os as bs us.toList vs.toList hu hv b h 10000 (by decide)
   simpa [mkV] using run_equal_of this
 all_goals
  subst h
  simp only [RV] at hu hv
 · subst hu hv; obtain ⟨e, ht⟩ := ht; exact ⟨(eq_nilptr ht none).1, by simp, by simp⟩
 · subst hu; obtain ⟨_, _, _, rfl, _⟩ := hv; obtain ⟨e, ht⟩ := ht; exact ⟨(eq_nilptr ht _).1, by simp, by simp⟩
 · subst hv; obtain ⟨_, _, _, rfl, _⟩ := hu; obtain ⟨e, ht⟩ := ht; exact ⟨(eq_nilptr ht _).2, by simp, by simp⟩
 · subst hu; obtain ⟨_, _, rfl, _⟩ := hv; obtain ⟨e, ht⟩ := ht; exact ⟨(eq_nilptr ht _).1, by simp, by simp⟩
 · subst hv; obtain ⟨_, _, rfl, _⟩ := hu; obtain ⟨e, ht⟩ := ht; exact ⟨(eq_nilptr ht _).2, by simp, by simp⟩
 · subst hu hv; exact ⟨(fnil (.func 0) #[] #[] ht).1, by simp, by simp⟩
 · subst hu; obtain ⟨_, _, rfl, _⟩ := hv; exact ⟨(fnil _ _ _ ht).2.1, by simp, by simp⟩
 · subst hv; obtain ⟨_, _, rfl, _⟩ := hu; exact ⟨(fnil _ _ _ ht).2.2, by simp, by simp⟩
 · subst hu hv; exact ⟨(mnil none ht).1, by simp, by simp⟩
 · subst hu; obtain ⟨_, _, _, _, rfl, _⟩ := hv; exact ⟨(mnil _ ht).1, by simp, by simp⟩
 · subst hv; obtain ⟨_, _, _, _, rfl, _⟩ := hu; exact ⟨(mnil _ ht).2, by simp, by simp⟩
theorem bin_sound {op : BinOp} {ek : EK} {t : TypeId} (ht : EqTy P t ek) {X Y : Operand} {x y r : EV} {u v : Value} (hu : RV g os x u) (hv : RV g os y v) (h : binOp op ek x y = some r) :
 ∃ z, (do eqGuard op t X Y u v; Go.binOp op t u v : Sem Value).run P w = .ok z w ∧ RV g os r z := by
 have plain : (∃ z, (Go.binOp op t u v).run P w = .ok z w ∧ RV g os r z) → ((u = .nilIface ∧ v = .nilIface) → False) → (∀ a b, u = .agg a → v = .agg b → P.eqGuardType P.depth t = false) →
  ∃ z, (do eqGuard op t X Y u v; Go.binOp op t u v : Sem Value).run P w = .ok z w ∧ RV g os r z := by
  rintro ⟨z, h1, h2⟩ h3 h4
  exact ⟨z, by simp only [Sem.run_bind, guard_plain h3 h4, Result.andThen_ok, h1], h2⟩
 unfold binOp at h
 split at h
 · rename_i k a k' b
   obtain rfl := hu.int
   obtain rfl := hv.int
   refine plain ?_ (by simp) (by simp)
   split at h
   · simp only [Option.map_eq_some_iff] at h
     obtain ⟨q, hq, rfl⟩ := h
     simpa [RV] using shift_sound (P := P) (w := w) (g := g) (t := t) (k' := k') (.inl rfl) hq
   · simp only [Option.map_eq_some_iff] at h
     obtain ⟨q, hq, rfl⟩ := h
     simpa [RV] using shift_sound (P := P) (w := w) (g := g) (t := t) (k' := k') (.inr rfl) hq
   · rename_i n1 n2
     split at h
     · rename_i hk
       subst hk
       simp only [Option.map_eq_some_iff] at h
       obtain ⟨q, hq, rfl⟩ := h
       simpa [RV] using int_sound (P := P) (w := w) (g := g) (t := t) n1 n2 hq
     · cases h
 · rename_i a b
   obtain rfl := hu.str
   obtain rfl := hv.str
   refine plain ?_ (by simp) (by simp)
   simp only [Option.map_eq_some_iff] at h
   obtain ⟨q, hq, rfl⟩ := h
   simpa [RV] using str_sound (P := P) (w := w) (g := g) (t := t) hq
 · rename_i n1 n2
   have vals : ∀ b, evEq ek x y = some b → (Go.binOp .eql t u v).run P w = .ok (.bool b) w ∧ (Go.binOp .neq t u v).run P w = .ok (.bool !b) w := by
    intro b hb
    obtain ⟨he, _, _⟩ := evEq_sound (P := P) (w := w) ht hb hu hv
    unfold evEq at hb
    split at hb <;> (try simp only [Option.some.injEq, reduceCtorEq] at hb)
    · obtain rfl := hu.bool
      obtain rfl := hv.bool
      constructor <;> simp [Go.binOp, he]
    · simp only [RV] at hu hv
      obtain ⟨us, rfl, _⟩ := hu
      obtain ⟨vs, rfl, _⟩ := hv
      constructor <;> simp [Go.binOp, he]
    all_goals simp only [RV] at hu hv
    · subst hu hv; constructor <;> simp [Go.binOp, he]
    · subst hu; obtain ⟨_, _, _, rfl, _⟩ := hv; constructor <;> simp [Go.binOp, he]
    · subst hv; obtain ⟨_, _, _, rfl, _⟩ := hu; constructor <;> simp [Go.binOp, he]
    · subst hu; obtain ⟨_, _, rfl, _⟩ := hv; constructor <;> simp [Go.binOp, he]
    · subst hv; obtain ⟨_, _, rfl, _⟩ := hu; constructor <;> simp [Go.binOp, he]
    · subst hu hv; constructor <;> simp [Go.binOp, he]
    · subst hu; obtain ⟨_, _, rfl, _⟩ := hv; constructor <;> simp [Go.binOp, he]
    · subst hv; obtain ⟨_, _, rfl, _⟩ := hu; constructor <;> simp [Go.binOp, he]
    · subst hu hv; constructor <;> simp [Go.binOp, he]
    · subst hu; obtain ⟨_, _, _, _, rfl, _⟩ := hv; constructor <;> simp [Go.binOp, he]
    · subst hv; obtain ⟨_, _, _, _, rfl, _⟩ := hu; constructor <;> simp [Go.binOp, he]
   split at h
   · simp only [Option.map_eq_some_iff] at h
     obtain ⟨b, hb, rfl⟩ := h
     obtain ⟨_, q1, q2⟩ := evEq_sound (P := P) (w := w) ht hb hu hv
     exact plain ⟨_, (vals b hb).1, by simp [RV, RP]⟩ q1 q2
   · simp only [Option.map_eq_some_iff] at h
     obtain ⟨b, hb, rfl⟩ := h
     obtain ⟨_, q1, q2⟩ := evEq_sound (P := P) (w := w) ht hb hu hv
     exact plain ⟨_, (vals b hb).2, by simp [RV, RP]⟩ q1 q2
   · cases h
end Dk
namespace Dk
open Go Go.RowKit
variable [Globs] [SiteRel] {P : Program} {B : Nat} {w0 w : World} {g : Gh} {os : List Obj}
theorem ones_get {l : List EV} (h : ones l = true) {i : Nat} {e : EV} (he : l[i]? = some e) : e.one = true := by
 unfold ones at h
 rw [List.all_eq_true] at h
 exact h e (List.mem_of_getElem? he)
theorem RVs_one {es : List EV} {vs : List Value} (h : RVs g os es vs) (h1 : ones es = true) : ∀ v ∈ vs, v.oneCell' = true := by
 intro v hv
 obtain ⟨i, hi⟩ := List.mem_iff_getElem?.1 hv
 obtain ⟨hl, hg⟩ := RVs_get.1 h
 have hlt : i < es.length := by
  rw [hl]; exact (List.getElem?_eq_some_iff.1 hi).1
 obtain ⟨u, hu, hr⟩ := hg i es[i] (by simp [hlt])
 rw [hi] at hu; cases hu
 exact hr.one (ones_get h1 (by simp [hlt] : es[i]? = some es[i]))
theorem RV.cells {e : EV} {v : Value} (h : RV g os e v) (h1 : ones e.cells = true) : RVs g os e.cells v.cells.toList := by
 cases e with
 | agg cs => simp only [RV] at h; obtain ⟨vs, rfl, h⟩ := h; exact h
 | _ =>
  have hv := RV.one h (by simpa [ones, EV.cells] using h1)
  have : v.cells = #[v] := by cases v <;> simp [Value.oneCell'] at hv <;> rfl
  rw [this]
  simp only [EV.cells, RVs]
  exact ⟨v, [], rfl, h, rfl⟩
theorem foldSet (cs : Array Value) (off : Nat) : ∀ (l : List Value) (k : Nat), off + k + l.length ≤ cs.size →
 (l.zipIdx k).foldl (fun cs (c, j) => cs.setIfInBounds (off + j) c) cs = (cs.toList.take (off + k) ++ l ++ cs.toList.drop (off + k + l.length)).toArray := by
 intro l
 induction l generalizing cs with
 | nil => intro k _; simp
 | cons v l ih =>
  intro k hk
  simp only [List.length_cons] at hk
  rw [List.zipIdx_cons, List.foldl_cons, ih _ (k + 1) (by simp; omega)]
  apply Array.ext'
  have := list_seg_step cs.toList (off + k) v l (by simp; omega)
  simp only [Array.toList_setIfInBounds, List.length_cons]
  rw [show off + (k + 1) = off + k + 1 by omega, this]
theorem RVs_splice {es es' : List EV} {vs vs' : List Value} (h : RVs g os es vs) (h' : RVs g os es' vs') (off n : Nat) : RVs g os (es.take off ++ es' ++ es.drop (off + n)) (vs.take off ++ vs' ++ vs.drop (off + n)) := by
 have h1 : RVs g os (es.take off) (vs.take off) := by simpa using RVs_sub h 0 off
 have h2 : RVs g os (es.drop (off + n)) (vs.drop (off + n)) := by
  have := RVs_sub h (off + n) es.length
  have hl := (RVs_get.1 h).1
  rwa [List.take_of_length_le (by simp), List.take_of_length_le (by simp; omega)] at this
 exact RVs_append (RVs_append h1 h') h2
def PartsAre (place : Nat → Option (Nat × Nat)) (g : Gh) (os : List Obj) : List (Nat × Value) → List (Nat × Nat × EV) → Prop
 | [], ps => ps = []
 | (i, v) :: r, ps => ∃ off n e ps', ps = (off, n, e) :: ps' ∧ place i = some (off, n) ∧ RV g os e v ∧ PartsAre place g os r ps'
theorem lay_sound {place : Nat → Option (Nat × Nat)} : ∀ {parts : List (Nat × Value)} {ps : List (Nat × Nat × EV)} {cs : List EV} {vs : Array Value} {r : List EV},
 PartsAre place g os parts ps → RVs g os cs vs.toList → lay cs ps = some r → ∃ us, Instr.fill place vs parts = some us ∧ RVs g os r us.toList
 | [], ps, cs, vs, r, hp, hv, h => by
  simp only [PartsAre] at hp
  subst hp
  simp [lay] at h
  subst h
  exact ⟨vs, rfl, hv⟩
 | (i, v) :: parts, ps, cs, vs, r, hp, hv, h => by
  simp only [PartsAre] at hp
  obtain ⟨off, n, e, ps', rfl, hpl, hr, hp⟩ := hp
  rw [lay] at h
  split at h
  · rename_i hc
    obtain ⟨h1, h2, h3⟩ := hc
    have hcs := hr.cells h3
    have hl := (RVs_get.1 hv).1
    have hl2 := (RVs_get.1 hcs).1
    simp only [Array.length_toList] at hl hl2
    have hz := foldSet vs off v.cells.toList 0 (by simp; omega)
    have hfold : v.cells.zipIdx.foldl (fun cs (x : Value × Nat) => cs.setIfInBounds (off + x.2) x.1) vs = (vs.toList.take off ++ v.cells.toList ++ vs.toList.drop (off + n)).toArray := by
     rw [← Array.foldl_toList, Array.toList_zipIdx]
     simp only [Nat.add_zero, Array.length_toList] at hz
     rw [hz, ← hl2, h1]
    have hs := RVs_splice hv hcs off n
    obtain ⟨us, hu, hru⟩ := lay_sound (vs := (vs.toList.take off ++ v.cells.toList ++ vs.toList.drop (off + n)).toArray) hp (by simpa using hs) h
    refine ⟨us, ?_, hru⟩
    simp only [Instr.fill, hpl]
    rw [if_neg (by simp; omega)]
    rw [← hu, ← hfold]
  · cases h
theorem build_sound {t : TypeId} {parts : Array (Nat × Value)} {ps : List (Nat × Nat × EV)} {zs r : List EV} {it : TypeInfo} {z : Value} (hi : P.info? t = some it) (hz : it.zero = some z) (hzs : RVs g os zs z.cells.toList)
 {place : Nat → Option (Nat × Nat)}
 (hpl : (∃ fields places, P.underlying t = some (.struct fields) ∧ fields.toList.mapM (fun f => (P.info? f.type).map fun i => (f.offset, i.size)) = some places ∧ place = (places.toArray[·]?)) ∨
  (∃ n e ie, P.underlying t = some (.array n e) ∧ P.info? e = some ie ∧ place = fun i => some (i * ie.size, ie.size)))
 (hp : PartsAre place g os parts.toList ps) (h : lay zs ps = some r) :
 ∃ u, (Instr.build t parts).run P w = .ok u w ∧ RV g os (.agg r) u := by
 obtain ⟨us, hu, hru⟩ := lay_sound hp hzs h
 refine ⟨.agg us, run_build w t parts us ?_, by simp only [RV]; exact ⟨us, rfl, hru⟩⟩
 unfold Program.built
 rcases hpl with ⟨fields, places, h1, h2, rfl⟩ | ⟨n, e, ie, h1, h2, rfl⟩
 · simp only [hi, h1, hz, h2]
   exact hu
 · simp only [hi, h1, hz, h2]
   exact hu
def LenTy (P : Program) (t : TypeId) : Nat → Prop
 | 0 => ∃ e, P.underlying t = some (.slice e)
 | 1 => P.underlying t = some .string
 | _ => ∃ k e, P.underlying t = some (.map k e)
theorem map_obj (hI : Inv B w0 g os w) {id : Nat} {v : Value} (hv : RV g os (.map id) v) {lim : Nat} {es : List (PD × EV)} (he : Hp.mapOf ⟨os, lim⟩ id = some es) :
 ∃ b x y mes clock, v = .map (some b) ∧ g.ph id = some (b, x, y) ∧ os[id]? = some (.map es) ∧ w.heap[b]? = some (.map mes clock) ∧ MapOK mes clock es.length ∧
  ∀ (i : Nat) (k : PD) (e : EV), es[i]? = some (k, e) → ∃ me : MapEntry, mes[i]? = some me ∧ RP g.rd k me.key ∧ RV g os e me.val := by
 simp only [RV] at hv
 obtain ⟨b, x, y, es', rfl, hp, ho⟩ := hv
 unfold Hp.mapOf at he
 simp only [ho] at he
 simp at he
 subst he
 obtain ⟨mes, clock, h1, h2, h3⟩ := hI.maps id es' b x y ho hp
 exact ⟨b, x, y, mes, clock, rfl, hp, ho, h1, h2, h3⟩
theorem run_getObj_map {b : Nat} {mes : Array MapEntry} {clock : Nat} (h : w.heap[b]? = some (.map mes clock)) : (getObj b).run P w = .ok (.map mes clock) w := by
 simp [getObj, Sem.run, h]
theorem len_sound (hI : Inv B w0 g os w) {t ty : TypeId} {kd : Nat} (ht : LenTy P t kd) {x : EV} {v : Value} (hv : RV g os x v) {lim n : Nat} (h : lenOf kd x ⟨os, lim⟩ = some n) :
 (Builtin.len_ #[t] ty #[v]).run P w = .ok (.int .i64 n) w := by
 unfold lenOf at h
 split at h
 · simp at h; subst h
   obtain ⟨e, ht⟩ := ht
   have := hv.list_cases
   simp only [RP] at this
   obtain ⟨a, cap, rfl, _⟩ := this
   simp [Builtin.len_, run_underlying ht, goInt]
 · simp at h; subst h
   obtain ⟨e, ht⟩ := ht
   simp only [RV] at hv
   obtain ⟨_, a, rfl⟩ := hv
   simp [Builtin.len_, run_underlying ht, goInt]
 · simp at h; subst h
   obtain ⟨e, ht⟩ := ht
   simp only [RV] at hv
   obtain ⟨_, a, cap, ar, rfl, _⟩ := hv
   simp [Builtin.len_, run_underlying ht, goInt]
 · simp at h; subst h
   obtain ⟨e, ht⟩ := ht
   simp only [RV] at hv
   obtain ⟨_, a, cap, ar, rfl, _⟩ := hv
   simp [Builtin.len_, run_underlying ht, goInt]
 · simp at h; subst h
   simp only [LenTy] at ht
   obtain rfl := hv.str
   simp [Builtin.len_, run_underlying ht, goInt]
 · simp at h; subst h
   obtain ⟨k, e, ht⟩ := ht
   simp only [RV] at hv
   subst hv
   simp [Builtin.len_, run_underlying ht, goInt]
 · split at h
   · rename_i es he
     simp at h; subst h
     obtain ⟨k, e, ht⟩ := ht
     obtain ⟨b, x, y, mes, clock, rfl, _, _, hh, hs, _⟩ := map_obj hI hv he
     simp [Builtin.len_, run_underlying ht, run_getObj_map hh, goInt, hs.size]
   · cases h
 · cases h
theorem cap_sound {t ty e : TypeId} (ht : P.underlying t = some (.slice e)) {xs : List PD} {v : Value} (hv : RV g os (.full xs) v) :
 (Builtin.cap_ #[t] ty #[v]).run P w = .ok (.int .i64 xs.length) w := by
 simp only [RV] at hv
 obtain ⟨_, a, rfl⟩ := hv
 simp [Builtin.cap_, run_underlying ht, goInt]
def KeyTy (P : Program) (t : TypeId) : CK → Prop
 | .int => ∃ k, P.underlying t = some (.int k)
 | .bool => P.underlying t = some .bool
 | .str => P.underlying t = some .string
theorem ba_beq (a b : ByteArray) : (a == b) = decide (a = b) := by
 rw [beq_toListBytes, Bool.eq_iff_iff]
 simp only [beq_iff_eq, decide_eq_true_eq]
 constructor
 · intro h
   rw [ByteArray.toList_eq, ByteArray.toList_eq] at h
   cases a; cases b
   congr
   exact Array.toList_inj.1 h
 · rintro rfl; rfl
theorem key_same {t : TypeId} {ck : CK} (ht : KeyTy P t ck) : ∃ d, P.underlying t = some d ∧ ∀ (k x : PD) (u v : Value), PD.alike ck k x = true → RP g.rd k u → RP g.rd x v → Instr.sameNow d u v = some (PD.eqb k x) := by
 cases ck with
 | int =>
  obtain ⟨kd, h⟩ := ht
  refine ⟨_, h, fun k x u v ha hu hv => ?_⟩
  cases k <;> cases x <;> simp [PD.alike] at ha
  simp only [RP] at hu hv
  subst hu hv ha
  simp [Instr.sameNow, PD.eqb]
  rfl
 | bool =>
  refine ⟨_, ht, fun k x u v ha hu hv => ?_⟩
  cases k <;> cases x <;> simp [PD.alike] at ha
  simp only [RP] at hu hv
  subst hu hv
  simp [Instr.sameNow, PD.eqb]
 | str =>
  refine ⟨_, ht, fun k x u v ha hu hv => ?_⟩
  cases k <;> cases x <;> simp [PD.alike] at ha
  simp only [RP] at hu hv
  subst hu hv
  simp only [Instr.sameNow, PD.eqb, ba_beq]
theorem run_checkKey {t : TypeId} {ck : CK} (ht : KeyTy P t ck) {k : PD} {u : Value} (ha : PD.alike ck k k = true) (hu : RP g.rd k u) (e : Bool) (n : Nat) : (Instr.checkKey e (n + 1) t u).run P w = .ok () w := by
 cases ck with
 | int =>
  obtain ⟨kd, h⟩ := ht
  cases k <;> simp [PD.alike] at ha
  simp only [RP] at hu; subst hu
  simp [Instr.checkKey, run_underlying h]
 | bool =>
  cases k <;> simp [PD.alike] at ha
  simp only [RP] at hu; subst hu
  simp [Instr.checkKey, run_underlying (show P.underlying t = _ from ht)]
 | str =>
  cases k <;> simp [PD.alike] at ha
  simp only [RP] at hu; subst hu
  simp [Instr.checkKey, run_underlying (show P.underlying t = _ from ht)]
def ME (g : Gh) (os : List Obj) : List (PD × EV) → List MapEntry → Prop
 | [], ms => ms = []
 | (k, e) :: r, ms => ∃ m ms', ms = m :: ms' ∧ RP g.rd k m.key ∧ RV g os e m.val ∧ ME g os r ms'
theorem ME_get {g : Gh} {os : List Obj} : ∀ {es : List (PD × EV)} {ms : List MapEntry}, ME g os es ms ↔ ms.length = es.length ∧ ∀ (i : Nat) (k : PD) (e : EV), es[i]? = some (k, e) → ∃ m : MapEntry, ms[i]? = some m ∧ RP g.rd k m.key ∧ RV g os e m.val
 | [], ms => by simp [ME]
 | (k, e) :: r, ms => by
  rw [ME]
  constructor
  · rintro ⟨m, ms', rfl, h1, h2, h⟩
    obtain ⟨hl, h⟩ := ME_get.1 h
    refine ⟨by simp [hl], fun i k' e' hi => ?_⟩
    cases i with
    | zero => simp at hi; obtain ⟨rfl, rfl⟩ := hi; exact ⟨m, by simp, h1, h2⟩
    | succ i => simpa using h i k' e' (by simpa using hi)
  · rintro ⟨hl, h⟩
    cases ms with
    | nil => simp at hl
    | cons m ms =>
     obtain ⟨m', hm, h1, h2⟩ := h 0 k e (by simp)
     simp at hm; subst hm
     exact ⟨m, ms, rfl, h1, h2, ME_get.2 ⟨by simpa using hl, fun i k' e' hi => by simpa using h (i + 1) k' e' (by simpa using hi)⟩⟩
theorem find_sound {d : TypeDesc} {ck : CK} (hd : ∀ (k x : PD) (u v : Value), PD.alike ck k x = true → RP g.rd k u → RP g.rd x v → Instr.sameNow d u v = some (PD.eqb k x)) {k : PD} {u : Value} (hu : RP g.rd k u) :
 ∀ (es : List (PD × EV)) (ms : List MapEntry) (i : Nat), ME g os es ms → es.all (fun e => PD.alike ck k e.1) = true →
  (findKey k es = none ∧ Instr.findNow d u ms i = some none ∧ (∀ e', setKey k e' es = es ++ [(k, e')]) ∧ delKey k es = es) ∨
  (∃ j e m, findKey k es = some e ∧ Instr.findNow d u ms i = some (some (i + j, m.val)) ∧ es[j]? = some (k, e) ∧ ms[j]? = some m ∧ (∀ e', setKey k e' es = es.set j (k, e')) ∧ delKey k es = es.eraseIdx j)
 | [], ms, i, hm, _ => by
  simp only [ME] at hm
  subst hm
  exact .inl ⟨rfl, rfl, fun _ => rfl, rfl⟩
 | (x, e) :: r, ms, i, hm, ha => by
  simp only [ME] at hm
  obtain ⟨m, ms', rfl, h1, h2, hm⟩ := hm
  simp only [List.all_cons, Bool.and_eq_true] at ha
  have hs := hd k x u m.key ha.1 hu h1
  cases hq : PD.eqb k x with
  | true =>
   have hx := PD.eqb_eq k x hq
   subst hx
   refine .inr ⟨0, e, m, by simp [findKey], ?_, rfl, rfl, by simp [setKey], by simp [delKey]⟩
   simp [Instr.findNow, hs]
  | false =>
   rcases find_sound hd hu r ms' (i + 1) hm ha.2 with ⟨a1, a2, a3, a4⟩ | ⟨j, e', m', a1, a2, a3, a4, a5, a6⟩
   · refine .inl ⟨by simp [findKey, hq, a1], by simp [Instr.findNow, hs, hq, a2], fun e' => by simp [setKey, hq, a3], by simp [delKey, hq, a4]⟩
   · refine .inr ⟨j + 1, e', m', by simp [findKey, hq, a1], ?_, by simpa using a3, by simpa using a4, fun e'' => by simp [setKey, hq, a5], by simp [delKey, hq, a6]⟩
     simp [Instr.findNow, hs, hq, a2]
     omega
theorem run_findKey {t : TypeId} {ck : CK} (ht : KeyTy P t ck) {k : PD} {u : Value} (hu : RP g.rd k u) {es : List (PD × EV)} {ms : List MapEntry} (hm : ME g os es ms) (ha : es.all (fun e => PD.alike ck k e.1) = true) :
 (findKey k es = none ∧ (Instr.findKey t u ms).run P w = .ok none w ∧ (∀ e', setKey k e' es = es ++ [(k, e')]) ∧ delKey k es = es) ∨
 (∃ j e m, findKey k es = some e ∧ (Instr.findKey t u ms).run P w = .ok (some (j, m.val)) w ∧ es[j]? = some (k, e) ∧ ms[j]? = some m ∧ (∀ e', setKey k e' es = es.set j (k, e')) ∧ delKey k es = es.eraseIdx j) := by
 obtain ⟨d, hd, hs⟩ := key_same (g := g) ht
 rcases find_sound (os := os) hs hu es ms 0 hm ha with ⟨a1, a2, a3, a4⟩ | ⟨j, e, m, a1, a2, a3, a4, a5, a6⟩
 · exact .inl ⟨a1, by simp [Instr.findKey, run_underlying hd, a2], a3, a4⟩
 · exact .inr ⟨j, e, m, a1, by simp [Instr.findKey, run_underlying hd, a2], a3, a4, a5, a6⟩
theorem look_map_sound (hI : Inv B w0 g os w) {t kt et : TypeId} {ck : CK} {ok : Bool} (ht : P.underlying t = some (.map kt et)) (hk : KeyTy P kt ck) {z : EV} {ie : TypeInfo} {zv : Value} (hi : P.info? et = some ie) (hz : ie.zero = some zv) (hzr : RV g os z zv)
 {m k : EV} {vm vk : Value} (hm : RV g os m vm) (hkv : RV g os k vk) {lim : Nat} {r : EV} {b : Bool} (h : mapGet ck z m k ⟨os, lim⟩ = some (r, b)) :
 ∃ u, (Instr.lookup t vm vk ok).run P w = .ok u w ∧ RV g os (if ok then .tup [r, .p (.bool b)] else r) u := by
 unfold mapGet at h
 have fin : ∀ (v : Value) (b : Bool), RV g os r v → ∃ u, (Pure.pure (if ok then .tuple #[v, .bool b] else v) : Sem Value).run P w = .ok u w ∧ RV g os (if ok then .tup [r, .p (.bool b)] else r) u := by
  intro v b hv
  refine ⟨_, rfl, ?_⟩
  cases ok
  · simpa using hv
  · simp only [if_true, RV]
    exact ⟨_, rfl, by simp [RVs, RV, RP, hv]⟩
 have hzero : (zeroValue et).run P w = .ok zv w := by simp [zeroValue, typeInfo, hi, hz]
 split at h
 · rename_i k
   split at h
   · rename_i ha
     have hkp := hkv.list_cases
     split at h
     · simp at h
       obtain ⟨rfl, rfl⟩ := h
       simp only [RV] at hm
       subst hm
       obtain ⟨u, h1, h2⟩ := fin zv false hzr
       refine ⟨u, ?_, h2⟩
       obtain ⟨d, hd, _⟩ := key_same (g := g) hk
       simp only [Instr.lookup, Sem.run_bind, run_underlying ht, Result.andThen_ok, Sem.run_pure, run_checkKey hk ha hkp]
       simp only [Instr.findKey, Sem.run_bind, run_underlying hd, Result.andThen_ok, Instr.findNow, Sem.run_pure, hzero]
       exact h1
     · rename_i id
       split at h
       · rename_i es he
         split at h
         · rename_i hall
           obtain ⟨b', x, y, mes, clock, rfl, _, _, hh, hsz, hent⟩ := map_obj hI hm he
           have hME : ME g os es mes.toList := ME_get.2 ⟨by simpa using hsz.size, fun i k e hi => by simpa using hent i k e hi⟩
           rcases run_findKey (P := P) (w := w) hk hkp hME hall with ⟨a1, a2, _⟩ | ⟨j, e, me, a1, a2, a3, a4, _⟩
           · simp only [a1] at h
             simp at h
             obtain ⟨rfl, rfl⟩ := h
             obtain ⟨u, h1, h2⟩ := fin zv false hzr
             refine ⟨u, ?_, h2⟩
             simp only [Instr.lookup, Sem.run_bind, run_underlying ht, Result.andThen_ok, run_getObj_map hh, Sem.run_pure, run_checkKey hk ha hkp, a2, hzero]
             exact h1
           · simp only [a1] at h
             simp at h
             obtain ⟨rfl, rfl⟩ := h
             obtain ⟨me', hm', _, hv⟩ := hent j k e a3
             have : me' = me := by
              have a4' : mes[j]? = some me := by simpa using a4
              rw [a4'] at hm'; cases hm'; rfl
             subst this
             obtain ⟨u, h1, h2⟩ := fin me'.val true hv
             refine ⟨u, ?_, h2⟩
             simp only [Instr.lookup, Sem.run_bind, run_underlying ht, Result.andThen_ok, run_getObj_map hh, Sem.run_pure, run_checkKey hk ha hkp, a2]
             exact h1
         · cases h
       · cases h
     · cases h
   · cases h
 · cases h
end Dk
namespace Dk
open Go Go.RowKit
variable [Globs] [SiteRel] {P : Program} {B : Nat} {w0 w w' : World} {g : Gh} {os os' : List Obj}
def Gh.at (g : Gh) (id : Nat) (x : Nat × Nat × Nat) : Gh := { g with ph := fun i => if i = id then some x else g.ph i, pend := fun i => i ≠ id ∧ g.pend i }
@[simp] theorem Gh.at_bf (g : Gh) (id : Nat) (x : Nat × Nat × Nat) : (g.at id x).bf = g.bf := rfl
@[simp] theorem Gh.at_df (g : Gh) (id : Nat) (x : Nat × Nat × Nat) : (g.at id x).df = g.df := rfl
@[simp] theorem Gh.at_rd (g : Gh) (id : Nat) (x : Nat × Nat × Nat) : (g.at id x).rd = g.rd := rfl
theorem Gh.at_same (g : Gh) (id : Nat) (x : Nat × Nat × Nat) : (g.at id x).ph id = some x := by simp [Gh.at]
theorem Gh.at_other (g : Gh) {id i : Nat} (x : Nat × Nat × Nat) (h : i ≠ id) : (g.at id x).ph i = g.ph i := by simp [Gh.at, h]
structure Chg (w w' : World) (b : Nat) : Prop where
 os : w'.os = w.os
 tape : w'.tape = w.tape
 output : w'.output = w.output
 size : w.heap.size ≤ w'.heap.size
 other : ∀ k, k < w.heap.size → k ≠ b → w'.heap[k]? = w.heap[k]?
theorem Chg.below {b : Nat} (h : Chg w w' b) (hl : Below B w0 w) (hb : B ≤ b) (hs : B ≤ w.heap.size) : Below B w0 w' :=
 hl.trans ⟨h.os, h.tape, h.output, h.size, fun k hk => h.other k (by omega) (by omega)⟩
def Fits (g : Gh) (os : List Obj) (w' : World) (b base tot : Nat) : Obj → Prop
 | .cells ar => 0 < ar.sz ∧ ar.els.length ≤ tot ∧ (∀ o v, g.rd b o = some v → o < base + ar.frz * ar.sz) ∧
  ∃ arr T, w'.heap[b]? = some (.cells arr T (0, 0)) ∧ base + tot * ar.sz ≤ arr.size ∧
   ∀ (i : Nat) (el : List EV), ar.els[i]? = some el → el.length = ar.sz ∧ ∀ (j : Nat) (e : EV), el[j]? = some e → ∃ v, arr[base + i * ar.sz + j]? = some v ∧ v.oneCell' = true ∧ RV g os e v
 | .map es => ∃ mes clock, w'.heap[b]? = some (.map mes clock) ∧ MapOK mes clock es.length ∧ ME g os es mes.toList
 | .loop lo => ∃ r, w'.heap[b]? = some (.loop r) ∧ LoopIs g os lo r
 | .bld s => (∃ cs, w'.heap[b]? = some (.cells cs Globs.bld (0, 0))) ∧ (∀ o, g.rd b o = none) ∧ ∀ t, s = some t → BldIs g w' b t
theorem BldIs.keep {b : Nat} {s : ByteArray} (h : BldIs g w b s) {g' : Gh} (hb : w'.heap[b]? = w.heap[b]?) (hc : ∀ c, g.bf c = some b → w'.heap[c]? = w.heap[c]?) (hf : ∀ c, g.bf c = some b → g'.bf c = some b) : BldIs g' w' b s := by
 obtain ⟨p, v, h1, h2, h3, h4⟩ := h
 refine ⟨p, v, h1, hb.trans h2, ⟨h3.1, ?_⟩, fun c hc' => hf c (h4 c hc')⟩
 rcases h3.2 with q | ⟨c, cap, cur, rfl, q1, q2, q3⟩
 · exact .inl q
 · exact .inr ⟨c, cap, cur, rfl, q1, (hc c (h4 c rfl)).trans q2, q3⟩
theorem Inv.upd (hI : Inv B w0 g os w) {id b base tot : Nat} {ob : Obj} (hc : Chg w w' b) (hb : b < w'.heap.size) (hB : B ≤ b)
 (hfree : (∃ x y, g.ph id = some (b, x, y)) ∨ w.heap.size ≤ b)
 (hos : ∀ i, i ≠ id → os'[i]? = os[i]?) (hid : os'[id]? = some ob) (hE : Ext g os (g.at id (b, base, tot)) os')
 (hrd : ∀ o v, g.rd b o = some v → w'.cell? ⟨b, o, none⟩ = some v) (hF : Fits g os w' b base tot ob) : Inv B w0 (g.at id (b, base, tot)) os' w' := by
 have hlen : id < os'.length := (List.getElem?_eq_some_iff.1 hid).1
 -- other things lie in other blocks
 have hne : ∀ i b' x y, i ≠ id → g.ph i = some (b', x, y) → b' ≠ b := by
  intro i b' x y hi hp he
  subst he
  rcases hfree with ⟨x', y', hp'⟩ | hs
  · exact hi (hI.inj i id b' x y x' y' hp hp')
  · obtain ⟨_, hh, _⟩ := hI.block hp
    have := (Array.getElem?_eq_some_iff.1 hh).1
    omega
 have hold : ∀ i b' x y ob', i ≠ id → g.ph i = some (b', x, y) → os[i]? = some ob' → w'.heap[b']? = w.heap[b']? := by
  intro i b' x y ob' hi hp ho
  obtain ⟨_, hh, _⟩ := hI.block hp
  exact hc.other b' (Array.getElem?_eq_some_iff.1 hh).1 (hne i b' x y hi hp)
 have hbf : ∀ c i, g.bf c = some i → c ≠ b := by
  intro c i hci he
  subst he
  obtain ⟨_, _, q2, _⟩ := hI.bfok c i hci
  have q1 := hI.bflt hci
  rcases hfree with ⟨x', y', hp'⟩ | hs
  · exact q2 _ _ _ _ hp' rfl
  · omega
 refine ⟨fun i hi => ⟨(Gh.at_other g _ hi.1).trans (hI.pend i hi.2).1, Nat.lt_of_lt_of_le (hI.pend i hi.2).2 hE.len⟩, hc.below hI.low hB hI.base, Nat.le_trans hI.base hc.size, ?_, ?_, ?_, ?_, ?_, ?_, ?_, ?_, hI.gl.mono fun _ _ _ h => h, fun c i hci => ?_, fun i s b' x y ho hp => ?_⟩
 · intro b' o v hv
   simp only [Gh.at_rd] at hv
   obtain ⟨h1, h2⟩ := hI.rdok b' o v hv
   refine ⟨?_, h2⟩
   by_cases hbb : b' = b
   · subst hbb; exact hrd o v hv
   · have hlt := World.block_lt_of_cell? w ⟨b', o, none⟩ h1
     rw [World.cell?_of_block (w := w) (hc.other b' hlt hbb)]
     exact h1
 · intro i x hx
   by_cases hi : i = id
   · subst hi; exact hlen
   · rw [Gh.at_other _ _ hi] at hx
     have hd := hI.dom i x hx
     cases ho : os[i]? with
     | none => rw [List.getElem?_eq_none_iff] at ho; omega
     | some ob' =>
      have := hos i hi
      rw [ho] at this
      exact (List.getElem?_eq_some_iff.1 this).1
 · intro i i' b' x y x' y' hx hx'
   by_cases hi : i = id
   · subst hi
     rw [Gh.at_same] at hx
     cases hx
     by_cases hi' : i' = i
     · exact hi'.symm
     · rw [Gh.at_other _ _ hi'] at hx'
       exact absurd rfl (hne i' _ _ _ hi' hx')
   · rw [Gh.at_other _ _ hi] at hx
     by_cases hi' : i' = id
     · subst hi'
       rw [Gh.at_same] at hx'
       cases hx'
       exact absurd rfl (hne i _ _ _ hi hx)
     · rw [Gh.at_other _ _ hi'] at hx'
       exact hI.inj i i' b' x y x' y' hx hx'
 · intro i b' x y hx
   by_cases hi : i = id
   · subst hi; rw [Gh.at_same] at hx; cases hx; exact hB
   · rw [Gh.at_other _ _ hi] at hx; exact hI.high i b' x y hx
 · intro i ar b' x y ho hp
   by_cases hi : i = id
   · subst hi
     rw [Gh.at_same] at hp; cases hp
     rw [hid] at ho; cases ho
     obtain ⟨h1, h2, h3, arr, T, h4, h5, h6⟩ := hF
     refine ⟨h1, h2, h3, arr, T, h4, h5, fun k el hk => ?_⟩
     obtain ⟨q1, q2⟩ := h6 k el hk
     refine ⟨q1, fun j e hj => ?_⟩
     obtain ⟨v, p1, p2, p3⟩ := q2 j e hj
     exact ⟨v, p1, p2, RV.mono hE e v p3⟩
   · rw [Gh.at_other _ _ hi] at hp
     rw [hos i hi] at ho
     obtain ⟨h1, h2, h3, arr, T, h4, h5, h6⟩ := hI.cells i ar b' x y ho hp
     refine ⟨h1, h2, h3, arr, T, by rw [hold i b' x y _ hi hp ho]; exact h4, h5, fun k el hk => ?_⟩
     obtain ⟨q1, q2⟩ := h6 k el hk
     refine ⟨q1, fun j e hj => ?_⟩
     obtain ⟨v, p1, p2, p3⟩ := q2 j e hj
     exact ⟨v, p1, p2, RV.mono hE e v p3⟩
 · intro i es b' x y ho hp
   by_cases hi : i = id
   · subst hi
     rw [Gh.at_same] at hp; cases hp
     rw [hid] at ho; cases ho
     obtain ⟨mes, clock, h1, hM, h2⟩ := hF
     obtain ⟨hl, h2⟩ := ME_get.1 h2
     refine ⟨mes, clock, h1, hM, fun k kk e hk => ?_⟩
     obtain ⟨m, hm, p1, p2⟩ := h2 k kk e hk
     exact ⟨m, by simpa using hm, p1, RV.mono hE e _ p2⟩
   · rw [Gh.at_other _ _ hi] at hp
     rw [hos i hi] at ho
     obtain ⟨mes, clock, h1, h2, h3⟩ := hI.maps i es b' x y ho hp
     refine ⟨mes, clock, by rw [hold i b' x y _ hi hp ho]; exact h1, h2, fun k kk e hk => ?_⟩
     obtain ⟨m, hm, p1, p2⟩ := h3 k kk e hk
     exact ⟨m, hm, p1, RV.mono hE e _ p2⟩
 · intro i lo b' x y ho hp
   by_cases hi : i = id
   · subst hi
     rw [Gh.at_same] at hp; cases hp
     rw [hid] at ho; cases ho
     obtain ⟨r, h1, h2⟩ := hF
     exact ⟨r, h1, h2.mono hE⟩
   · rw [Gh.at_other _ _ hi] at hp
     rw [hos i hi] at ho
     obtain ⟨r, h1, h2⟩ := hI.loops i lo b' x y ho hp
     exact ⟨r, by rw [hold i b' x y _ hi hp ho]; exact h1, h2.mono hE⟩
 · intro b' hb'
   obtain ⟨h1, h2⟩ := hI.defs b' hb'
   have hlt := (Array.getElem?_eq_some_iff.1 h2).1
   refine ⟨h1, (hc.other b' hlt fun e => ?_).trans h2⟩
   subst e
   rcases hfree with ⟨x', y', hp'⟩ | hs
   · obtain ⟨o, q1, q2⟩ := hI.block hp'
     rw [h2] at q1
     exact q2 _ (Option.some.inj q1).symm
   · omega
 · obtain ⟨q0, ⟨arr, fz, q1⟩, q2, q3⟩ := hI.bfok c i hci
   refine ⟨q0, ⟨arr, fz, (hc.other c (hI.bflt hci) (hbf c i hci)).trans q1⟩, fun j b' x y hp => ?_, q3⟩
   by_cases hj : j = id
   · subst hj
     rw [Gh.at_same] at hp
     cases hp
     exact (hbf c i hci).symm
   · rw [Gh.at_other _ _ hj] at hp
     exact q2 j b' x y hp
 · by_cases hi : i = id
   · subst hi
     rw [hid] at ho
     cases ho
     rw [Gh.at_same] at hp
     cases hp
     obtain ⟨q1, q2, q3⟩ := hF
     exact ⟨q1, q2, fun t ht => (q3 t ht).keep rfl (fun _ _ => rfl) fun _ h => h⟩
   · rw [Gh.at_other _ _ hi] at hp
     rw [hos i hi] at ho
     obtain ⟨⟨cs, q1⟩, q2, q3⟩ := hI.blds i s b' x y ho hp
     have hk := hold i b' x y _ hi hp ho
     exact ⟨⟨cs, hk.trans q1⟩, q2, fun t ht => (q3 t ht).keep hk (fun c hci => hc.other c (hI.bflt hci) (hbf c _ hci)) fun _ h => h⟩
theorem Chg.alloc (w : World) (o : Go.Obj) : Chg w (w.alloc o) w.heap.size :=
 ⟨rfl, rfl, rfl, by simp, fun k hk _ => heap_alloc_old w o k hk⟩
theorem Chg.drew {b : Nat} (h : Chg w.drew w' b) : Chg w w' b := ⟨h.os, h.tape, h.output, h.size, h.other⟩
theorem Chg.setRow (w : World) (b : Nat) (cs : Array Value) : Chg w (w.setRow b cs) b :=
 ⟨rfl, rfl, rfl, by simp, fun k _ hk => setRow_other w b k cs hk⟩
theorem Inv.rd_new (hI : Inv B w0 g os w) {b o : Nat} {v : Value} (hb : w.heap.size ≤ b) (h : g.rd b o = some v) : False := by
 have := World.block_lt_of_cell? w _ (hI.rdok b o v h).1
 simp at this
 omega
theorem Ext.new (g : Gh) (os : List Obj) (ob : Obj) (x : Nat × Nat × Nat) : Ext g os (g.at os.length x) (os ++ [ob]) := by
 refine ⟨fun _ _ _ h => h, fun id ar h => ?_, fun id es h => ?_, fun id es h => ?_, fun _ _ h => h.2, fun id es h => ?_⟩
 · have hlt := (List.getElem?_eq_some_iff.1 h).1
   refine ⟨ar, by rw [List.getElem?_append_left hlt]; exact h, Nat.le_refl _, fun _ => ⟨rfl, fun y hy => ?_⟩⟩
   rw [Gh.at_other _ _ (by omega)]; exact hy
 · have hlt := (List.getElem?_eq_some_iff.1 h).1
   refine ⟨es, by rw [List.getElem?_append_left hlt]; exact h, fun y hy => ?_⟩
   rw [Gh.at_other _ _ (by omega)]; exact hy
 · have hlt := (List.getElem?_eq_some_iff.1 h).1
   refine ⟨es, by rw [List.getElem?_append_left hlt]; exact h, fun y hy => ?_⟩
   rw [Gh.at_other _ _ (by omega)]; exact hy
 · have hlt := (List.getElem?_eq_some_iff.1 h).1
   refine ⟨es, by rw [List.getElem?_append_left hlt]; exact h, fun y hy => ?_⟩
   rw [Gh.at_other _ _ (by omega)]; exact hy
theorem Inv.new (hI : Inv B w0 g os w) {O : Go.Obj} {ob : Obj} {base tot : Nat} (hF : Fits g os (w.alloc O) w.heap.size base tot ob) :
 Inv B w0 (g.at os.length (w.heap.size, base, tot)) (os ++ [ob]) (w.alloc O) := by
 refine hI.upd (Chg.alloc w O) (by simp) hI.base (.inr (Nat.le_refl _)) (fun i hi => ?_) (by simp) (Ext.new g os ob _) (fun o v h => (hI.rd_new (Nat.le_refl _) h).elim) hF
 by_cases hlt : i < os.length
 · rw [List.getElem?_append_left hlt]
 · rw [List.getElem?_eq_none_iff.2 (by simp; omega), List.getElem?_eq_none_iff.2 (by omega)]
def Gh.wait (g : Gh) (id : Nat) (p : Bool) : Gh := { g with pend := fun i => (i = id ∧ p = true) ∨ g.pend i }
theorem Ext.newV (g : Gh) (os : List Obj) (ob : Obj) (p : Bool) : Ext g os (g.wait os.length p) (os ++ [ob]) := by
 refine ⟨fun _ _ _ h => h, fun id ar h => ?_, fun id es h => ?_, fun id es h => ?_, fun id hl h => h.resolve_left (by omega), fun id es h => ?_⟩
 · have hlt := (List.getElem?_eq_some_iff.1 h).1
   exact ⟨ar, by rw [List.getElem?_append_left hlt]; exact h, Nat.le_refl _, fun _ => ⟨rfl, fun y hy => hy⟩⟩
 · have hlt := (List.getElem?_eq_some_iff.1 h).1
   exact ⟨es, by rw [List.getElem?_append_left hlt]; exact h, fun y hy => hy⟩
 · have hlt := (List.getElem?_eq_some_iff.1 h).1
   exact ⟨es, by rw [List.getElem?_append_left hlt]; exact h, fun y hy => hy⟩
 · have hlt := (List.getElem?_eq_some_iff.1 h).1
   exact ⟨es, by rw [List.getElem?_append_left hlt]; exact h, fun y hy => hy⟩
theorem Inv.newV (hI : Inv B w0 g os w) (ob : Obj) (p : Bool) : Inv B w0 (g.wait os.length p) (os ++ [ob]) w := by
 have hE := Ext.newV g os ob p
 have old : ∀ id x, g.ph id = some x → (os ++ [ob])[id]? = os[id]? := fun id x h => List.getElem?_append_left (hI.dom id x h)
 refine ⟨fun id hp => ?_, hI.low, hI.base, hI.rdok, fun id x h => by have := hI.dom id x h; simp; omega, hI.inj, hI.high, fun id ar b x y ho hp => ?_, fun id es b x y ho hp => ?_, fun id lo b x y ho hp => ?_, hI.defs, hI.gl, hI.bfok, fun id s b x y ho hp => ?_⟩
 · rcases hp with ⟨rfl, _⟩ | hp
   · refine ⟨?_, by simp⟩
     cases hq : g.ph os.length with
     | none => exact hq
     | some x => exact absurd (hI.dom _ x hq) (by omega)
   · exact ⟨(hI.pend id hp).1, by have := (hI.pend id hp).2; simp; omega⟩
 · rw [old id _ hp] at ho
   obtain ⟨h1, h2, h3, arr, T, h4, h5, h6⟩ := hI.cells id ar b x y ho hp
   refine ⟨h1, h2, h3, arr, T, h4, h5, fun k el hk => ?_⟩
   obtain ⟨q1, q2⟩ := h6 k el hk
   refine ⟨q1, fun j e hj => ?_⟩
   obtain ⟨v, p1, p2, p3⟩ := q2 j e hj
   exact ⟨v, p1, p2, RV.mono hE e v p3⟩
 · rw [old id _ hp] at ho
   obtain ⟨mes, clock, h1, h2, h3⟩ := hI.maps id es b x y ho hp
   refine ⟨mes, clock, h1, h2, fun k kk e hk => ?_⟩
   obtain ⟨m, hm, p1, p2⟩ := h3 k kk e hk
   exact ⟨m, hm, p1, RV.mono hE e _ p2⟩
 · rw [old id _ hp] at ho
   obtain ⟨r, h1, h2⟩ := hI.loops id lo b x y ho hp
   exact ⟨r, h1, h2.mono hE⟩
 · rw [old id _ hp] at ho
   obtain ⟨q1, q2, q3⟩ := hI.blds id s b x y ho hp
   exact ⟨q1, q2, fun t ht => (q3 t ht).keep rfl (fun _ _ => rfl) fun _ h => h⟩
def Gh.buf (g : Gh) (c b : Nat) : Gh := { g with bf := fun k => if k = c then some b else g.bf k }
theorem Ext.buf (g : Gh) (os : List Obj) (c b : Nat) : Ext g os (g.buf c b) os :=
 ⟨fun _ _ _ h => h, fun _ ar h => ⟨ar, h, Nat.le_refl _, fun _ => ⟨rfl, fun _ h => h⟩⟩, fun _ es h => ⟨es, h, fun _ h => h⟩, fun _ lo h => ⟨lo, h, fun _ h => h⟩, fun _ _ h => h, fun _ s h => ⟨s, h, fun _ h => h⟩⟩
theorem Inv.buf (hI : Inv B w0 g os w) {id b x y c : Nat} (hp : g.ph id = some (b, x, y)) (ho : os[id]? = some (.bld none)) (hc : Chg w w' c) (hcc : ∃ arr fz, w'.heap[c]? = some (.cells arr Globs.byt fz)) (hB : B ≤ c) (hfree : g.bf c = some b ∨ w.heap.size ≤ c) : Inv B w0 (g.buf c b) os w' := by
 have hE := Ext.buf g os c b
 have hlt : c < w'.heap.size := by
  obtain ⟨_, _, q⟩ := hcc
  exact (Array.getElem?_eq_some_iff.1 q).1
 have hne : ∀ i b' x y, g.ph i = some (b', x, y) → b' ≠ c := by
  intro i b' x y hp' he
  subst he
  rcases hfree with h | h
  · exact (hI.bfok _ _ h).2.2.1 _ _ _ _ hp' rfl
  · obtain ⟨_, hh, _⟩ := hI.block hp'
    have := (Array.getElem?_eq_some_iff.1 hh).1
    omega
 have hold : ∀ i b' x y, g.ph i = some (b', x, y) → w'.heap[b']? = w.heap[b']? := by
  intro i b' x y hp'
  obtain ⟨_, hh, _⟩ := hI.block hp'
  exact hc.other b' (Array.getElem?_eq_some_iff.1 hh).1 (hne i b' x y hp')
 have hrd : ∀ o v, g.rd c o ≠ some v := by
  intro o v hv
  rcases hfree with h | h
  · rw [(hI.bfok _ _ h).2.2.2 o] at hv; cases hv
  · exact hI.rd_new h hv
 refine ⟨hI.pend, hc.below hI.low hB hI.base, Nat.le_trans hI.base hc.size, fun b' o v hv => ?_, hI.dom, hI.inj, hI.high, fun i ar b' x y ho' hp' => ?_, fun i es b' x y ho' hp' => ?_, fun i lo b' x y ho' hp' => ?_, fun b' hb' => ?_, hI.gl, fun c' b' hc' => ?_, fun i s b' x y ho' hp' => ?_⟩
 · obtain ⟨h1, h2⟩ := hI.rdok b' o v hv
   refine ⟨?_, h2⟩
   have hlt := World.block_lt_of_cell? w ⟨b', o, none⟩ h1
   rw [World.cell?_of_block (w := w) (hc.other b' hlt fun e => hrd o v (e ▸ hv))]
   exact h1
 · obtain ⟨h1, h2, h3, arr, T, h4, h5, h6⟩ := hI.cells i ar b' x y ho' hp'
   refine ⟨h1, h2, h3, arr, T, (hold i b' x y hp').trans h4, h5, fun k el hk => ?_⟩
   obtain ⟨q1, q2⟩ := h6 k el hk
   refine ⟨q1, fun j e hj => ?_⟩
   obtain ⟨v, p1, p2, p3⟩ := q2 j e hj
   exact ⟨v, p1, p2, RV.mono hE e v p3⟩
 · obtain ⟨mes, clock, h1, h2, h3⟩ := hI.maps i es b' x y ho' hp'
   refine ⟨mes, clock, (hold i b' x y hp').trans h1, h2, fun k kk e hk => ?_⟩
   obtain ⟨m, hm, p1, p2⟩ := h3 k kk e hk
   exact ⟨m, hm, p1, RV.mono hE e _ p2⟩
 · obtain ⟨r, h1, h2⟩ := hI.loops i lo b' x y ho' hp'
   exact ⟨r, (hold i b' x y hp').trans h1, h2.mono hE⟩
 · obtain ⟨h1, h2⟩ := hI.defs b' hb'
   refine ⟨h1, (hc.other b' (Array.getElem?_eq_some_iff.1 h2).1 fun e => ?_).trans h2⟩
   subst e
   rcases hfree with h | h
   · obtain ⟨_, ⟨_, _, q⟩, _⟩ := hI.bfok _ _ h
     rw [q] at h2
     cases h2
   · have := (Array.getElem?_eq_some_iff.1 h2).1
     omega
 · by_cases hcn : c' = c
   · subst hcn
     refine ⟨hB, hcc, hne, fun o => ?_⟩
     show g.rd c' o = none
     cases hq : g.rd c' o with
     | none => rfl
     | some v => exact (hrd o v hq).elim
   · have hc'' : g.bf c' = some b' := by simpa [Gh.buf, hcn] using hc'
     obtain ⟨q0, ⟨arr, fz, q1⟩, q2, q3⟩ := hI.bfok c' b' hc''
     exact ⟨q0, ⟨arr, fz, (hc.other c' (hI.bflt hc'') hcn).trans q1⟩, q2, q3⟩
 · obtain ⟨⟨cs, q1⟩, q2, q3⟩ := hI.blds i s b' x y ho' hp'
   have hk := hold i b' x y hp'
   refine ⟨⟨cs, hk.trans q1⟩, q2, fun t ht => ?_⟩
   have hbb : b' ≠ b := by
    rintro rfl
    have := hI.inj _ _ _ _ _ _ _ hp hp'
    subst this
    rw [ho] at ho'
    cases ho'
    cases ht
   refine (q3 t ht).keep hk (fun c' hci => hc.other c' (hI.bflt hci) fun e => ?_) fun c' hci => ?_
   · subst e
     rcases hfree with h | h
     · rw [h] at hci; cases hci; exact hbb rfl
     · have := hI.bflt hci
       omega
   · by_cases hcn : c' = c
     · subst hcn
       rcases hfree with h | h
       · rw [h] at hci; cases hci; exact (hbb rfl).elim
       · have := hI.bflt hci
         omega
     · simpa [Gh.buf, hcn] using hci
theorem Inv.drew (hI : Inv B w0 g os w) : Inv B w0 g os w.drew :=
 ⟨hI.pend, hI.low.drew, hI.base, hI.rdok, hI.dom, hI.inj, hI.high, hI.cells, hI.maps, hI.loops, hI.defs, hI.gl, hI.bfok, hI.blds⟩
end Dk
namespace Dk
open Go Go.RowKit
variable [Globs] [SiteRel] {P : Program} {B : Nat} {w0 w : World} {g : Gh} {os : List Obj}
structure Kept (lim : Nat) (g : Gh) (os : List Obj) (g' : Gh) (os' : List Obj) : Prop where
 old : ∀ i, i < os.length → (g.pend i → g'.pend i ∧ os'[i]? = os[i]?) ∧ (i < lim → g.ph i = none → g'.ph i = none)
 df : ∀ b, g.df b → g'.df b
def Comes (lim B : Nat) (w0 : World) (g : Gh) (os os' : List Obj) (r : EV) (m : Result Value) : Prop :=
 ∃ u w' g', m = .ok u w' ∧ Inv B w0 g' os' w' ∧ Ext g os g' os' ∧ RV g' os' r u ∧ Kept lim g os g' os'
def Born (B : Nat) (w0 : World) (g : Gh) (os : List Obj) (id : Nat) (r : EV) (m : Result Value) : Prop :=
 ∃ u w' g', m = .ok u w' ∧ Inv B w0 g' os w' ∧ Ext g os g' os ∧ RV g' os r u ∧ (∀ i, i ≠ id → g.pend i → g'.pend i) ∧ (∀ i, i ≠ id → g.ph i = none → g'.ph i = none) ∧ ∀ b, g.df b → g'.df b
theorem Ext.birth (g : Gh) (os : List Obj) {id : Nat} (hp : g.ph id = none) (x : Nat × Nat × Nat) : Ext g os (g.at id x) os := by
 refine ⟨fun _ _ _ h => h, fun i ar h => ⟨ar, h, Nat.le_refl _, fun _ => ⟨rfl, fun y hy => ?_⟩⟩, fun i es h => ⟨es, h, fun y hy => ?_⟩, fun i es h => ⟨es, h, fun y hy => ?_⟩, fun _ _ h => h.2, fun i es h => ⟨es, h, fun y hy => ?_⟩⟩ <;>
 · rw [Gh.at_other _ _ (by rintro rfl; rw [hp] at hy; cases hy)]; exact hy
theorem Inv.birth (hI : Inv B w0 g os w) {O : Go.Obj} {id : Nat} {ob : Obj} {base tot : Nat} (ho : os[id]? = some ob) (hp : g.ph id = none) (hF : Fits g os (w.alloc O) w.heap.size base tot ob) :
 Inv B w0 (g.at id (w.heap.size, base, tot)) os (w.alloc O) :=
 hI.upd (Chg.alloc w O) (by simp) hI.base (.inr (Nat.le_refl _)) (fun _ _ => rfl) ho (Ext.birth g os hp _) (fun o v h => (hI.rd_new (Nat.le_refl _) h).elim) hF
theorem fits_one {cs : List EV} {vs : Array Value} (hv : RVs g os cs vs.toList) (h1 : ones cs = true) (h0 : 0 < cs.length) (hI : Inv B w0 g os w) (ag : Bool) (T : TypeId) :
 Fits g os (w.alloc (.cells vs T)) w.heap.size 0 1 (.cells ⟨0, cs.length, ag, 0, [cs]⟩) := by
 obtain ⟨hl, hg⟩ := RVs_get.1 hv
 refine ⟨h0, by simp, fun o v h => (hI.rd_new (Nat.le_refl _) h).elim, vs, T, heap_alloc_new w _, by simp at hl; simp [hl], fun i el hi => ?_⟩
 cases i with
 | zero =>
  simp at hi
  subst hi
  refine ⟨rfl, fun j e hj => ?_⟩
  obtain ⟨v, hv', hr⟩ := hg j e hj
  exact ⟨v, by simpa using hv', hr.one (ones_get h1 hj), hr⟩
 | succ i => simp at hi
theorem ptr_new {id : Nat} {cs : List EV} {ag : Bool} {b tot : Nat} (ho : os[id]? = some (.cells ⟨0, cs.length, ag, 0, [cs]⟩)) : RV (g.at id (b, 0, tot)) os (.ptr id 0 0 0) (.pointer (some ⟨b, 0, none⟩)) := by
 simp only [RV]
 refine ⟨b, 0, ⟨0, cs.length, ag, 0, [cs]⟩, rfl, ho, Nat.le_refl _, fun _ => ⟨0, tot, by rw [Gh.at_same], by simp⟩⟩
theorem new_sound (hI : Inv B w0 g os w) {t : TypeId} {i : TypeInfo} {z : Value} (hi : P.info? t = some i) (hz : i.zero = some z) {zs : List EV} (hzs : RVs g os zs z.cells.toList) (h1 : ones zs = true) (h0 : 0 < zs.length) {ag : Bool}
 {id : Nat} (ho : os[id]? = some (.cells ⟨0, zs.length, ag, 0, [zs]⟩)) (hp : g.ph id = none) : Born B w0 g os id (.ptr id 0 0 0) ((Instr.alloc t true (.tuple #[])).run P w) := by
 refine ⟨_, _, _, ?_, hI.birth ho hp (fits_one hzs h1 h0 hI ag t), Ext.birth g os hp _, ptr_new ho, fun i hi h => ⟨hi, h⟩, fun i hi h => by rw [Gh.at_other _ _ hi]; exact h, fun _ h => h⟩
 simp [Instr.alloc, zeroValue, typeInfo, hi, hz, newVar, newRow]
theorem box_sound (hI : Inv B w0 g os w) (t : TypeId) {x : EV} {v : Value} (hv : RV g os x v) (h1 : ones x.cells = true) (h0 : 0 < x.cells.length) {ag : Bool}
 {id : Nat} (ho : os[id]? = some (.cells ⟨0, x.cells.length, ag, 0, [x.cells]⟩)) (hp : g.ph id = none) : Born B w0 g os id (.ptr id 0 0 0) ((Instr.box t v).run P w) := by
 refine ⟨_, _, _, ?_, hI.birth ho hp (fits_one (hv.cells h1) h1 h0 hI ag t), Ext.birth g os hp _, ptr_new ho, fun i hi h => ⟨hi, h⟩, fun i hi h => by rw [Gh.at_other _ _ hi]; exact h, fun _ h => h⟩
 simp [Instr.box, newVar, newRow]
theorem nils_sound (hI : Inv B w0 g os w) {sz : Nat} (h0 : 0 < sz) {ag : Bool} {id : Nat} (ho : os[id]? = some (.cells ⟨0, sz, ag, 0, []⟩)) (hp : ¬ g.pend id) {m : Result Value} (hm : m = .ok (.slice none 0 0) w) :
 Born B w0 g os id (.arr id 0 sz 0 0 false) m := by
 refine ⟨_, _, g, hm, hI, Ext.refl g os, ?_, fun _ _ h => h, fun _ _ h => h, fun _ h => h⟩
 simp only [RV]
 exact ⟨⟨h0, hp⟩, none, 0, ⟨0, sz, ag, 0, []⟩, rfl, Nat.le_refl _, ho, Nat.le_refl _, fun _ => ⟨rfl, by simp⟩, fun h => by omega⟩
theorem mkmap_sound (hI : Inv B w0 g os w) (t : TypeId) {id : Nat} (ho : os[id]? = some (.map [])) (hp : g.ph id = none) : Born B w0 g os id (.map id) ((Instr.makeMap t none).run P w) := by
 refine ⟨.map (some w.heap.size), w.alloc (.map #[] 0), g.at id (w.heap.size, 0, 0), ?_, hI.birth ho hp ⟨#[], 0, heap_alloc_new w _, ⟨rfl, by simp, by simp⟩, by simp [ME]⟩, Ext.birth g os hp _, ?_, fun i hi h => ⟨hi, h⟩, fun i hi h => by rw [Gh.at_other _ _ hi]; exact h, fun _ h => h⟩
 · simp [Instr.makeMap]
 · simp only [RV]
   exact ⟨w.heap.size, 0, 0, [], rfl, by rw [Gh.at_same], ho⟩
theorem nbld_sound (hI : Inv B w0 g os w) {i : TypeInfo} (hi : P.info? Globs.bld = some i) (hz : i.zero = some (.agg #[.pointer none, .slice none 0 0])) {id : Nat} (ho : os[id]? = some (.bld (some .empty))) (hp : g.ph id = none) :
 Born B w0 g os id (.bld id) ((Instr.alloc Globs.bld true (.tuple #[])).run P w) := by
 refine ⟨.pointer (some ⟨w.heap.size, 0, none⟩), _, g.at id (w.heap.size, 0, 0), ?_, hI.birth ho hp (O := .cells #[.pointer none, .slice none 0 0] Globs.bld) ⟨⟨_, heap_alloc_new w _⟩, fun o => ?_, fun t ht => ?_⟩, Ext.birth g os hp _, ?_, fun i hi h => ⟨hi, h⟩, fun i hi h => by rw [Gh.at_other _ _ hi]; exact h, fun _ h => h⟩
 · simp [Instr.alloc, zeroValue, typeInfo, hi, hz, newVar, newRow, Value.cells]
 · cases hq : g.rd w.heap.size o with
   | none => rfl
   | some v => exact (hI.rd_new (Nat.le_refl _) hq).elim
 · cases ht
   exact ⟨_, _, .inl rfl, heap_alloc_new w _, ⟨rfl, .inl ⟨rfl, rfl⟩⟩, fun c hc => by cases hc⟩
 · simp only [RV]
   exact ⟨w.heap.size, 0, 0, _, rfl, by rw [Gh.at_same], ho⟩
theorem flatten_get {α : Type} {sz : Nat} : ∀ {els : List (List α)}, (∀ el ∈ els, el.length = sz) → ∀ (i j : Nat), j < sz → els.flatten[i * sz + j]? = (els[i]?).bind (·[j]?)
 | [], _, i, j, _ => by simp
 | el :: r, h, i, j, hj => by
  have hel : el.length = sz := h el (by simp)
  cases i with
  | zero => simp [List.getElem?_append, hel, hj]
  | succ i =>
   rw [List.flatten_cons, List.getElem?_append_right (by rw [hel, Nat.add_mul]; omega), hel, show (i + 1) * sz + j - sz = i * sz + j by rw [Nat.add_mul]; omega, flatten_get (fun e he => h e (by simp [he])) i j hj]
   simp
theorem flatten_len {α : Type} {sz : Nat} : ∀ {els : List (List α)}, (∀ el ∈ els, el.length = sz) → els.flatten.length = els.length * sz
 | [], _ => by simp
 | el :: r, h => by
  rw [List.flatten_cons, List.length_append, h el (by simp), flatten_len (fun e he => h e (by simp [he])), List.length_cons, Nat.add_mul]
  omega
theorem flatten_set {α : Type} {sz : Nat} : ∀ {els : List (List α)}, (∀ el ∈ els, el.length = sz) → ∀ (i : Nat) (c : List α), i < els.length → (els.set i c).flatten = els.flatten.take (i * sz) ++ c ++ els.flatten.drop (i * sz + sz)
 | [], _, i, c, hi => by simp at hi
 | el :: r, h, i, c, hi => by
  have hel : el.length = sz := h el (by simp)
  cases i with
  | zero => simp [← hel]
  | succ i =>
   simp only [List.set_cons_succ, List.flatten_cons]
   rw [flatten_set (fun e he => h e (by simp [he])) i c (by simpa using hi)]
   have e1 : (i + 1) * sz = el.length + i * sz := by rw [Nat.add_mul, hel]; omega
   rw [e1, List.take_length_add_append, Nat.add_assoc, List.drop_length_add_append]
   simp
theorem fits_rows (hI : Inv B w0 g os w) {els : List (List EV)} {sz : Nat} (hsz : ∀ el ∈ els, el.length = sz) (h0 : 0 < sz) {vs : Array Value} {tot : Nat} (h1 : ∀ el ∈ els, ones el = true)
 (hv : RVs g os els.flatten (vs.toList.take (els.length * sz))) (ht : els.length ≤ tot) (hs : tot * sz ≤ vs.size) (ag : Bool) (T : TypeId) {w' : World} {b : Nat} (hb : w.heap.size ≤ b) (hw : w'.heap[b]? = some (.cells vs T (0, 0))) (gen : Nat) :
 Fits g os w' b 0 tot (.cells ⟨gen, sz, ag, 0, els⟩) := by
 refine ⟨h0, ht, fun o v h => (hI.rd_new hb h).elim, vs, T, hw, by simpa using hs, fun i el hi => ?_⟩
 have hm : el ∈ els := List.mem_of_getElem? hi
 refine ⟨hsz el hm, fun j e hj => ?_⟩
 have hjl : j < sz := by rw [← hsz el hm]; exact (List.getElem?_eq_some_iff.1 hj).1
 have hf := flatten_get hsz i j hjl
 rw [hi] at hf
 simp only [Option.bind_some, hj] at hf
 obtain ⟨v, hv', hr⟩ := (RVs_get.1 hv).2 _ e hf
 rw [List.getElem?_take] at hv'
 split at hv'
 · exact ⟨v, by simpa using hv', hr.one (ones_get (h1 el hm) hj), hr⟩
 · cases hv'
theorem arr_new {els : List (List EV)} {sz n tot cap b id : Nat} {ag : Bool} (h0 : 0 < sz) (hn : n ≤ cap) (hc : cap ≤ tot) (f : Bool) (hf : f = true → cap = n) (ho : os[id]? = some (.cells ⟨0, sz, ag, 0, els⟩)) :
 RV (g.at id (b, 0, tot)) os (.arr id 0 sz 0 n f) (.slice (some ⟨b, 0, none⟩) n cap) := by
 simp only [RV]
 refine ⟨⟨h0, fun h => h.1 rfl⟩, some ⟨b, 0, none⟩, cap, ⟨0, sz, ag, 0, els⟩, rfl, hn, ho, Nat.le_refl _, fun _ => ⟨rfl, hf⟩, fun _ => ⟨b, 0, rfl, fun _ => ⟨0, tot, by rw [Gh.at_same], by simp, by omega⟩⟩⟩
theorem RVs_made {zs : List EV} {z : Array Value} (h : RVs g os zs z.toList) (h0 : 0 < zs.length) {n N : Nat} (hN : n * zs.length ≤ N) : RVs g os (List.replicate n zs).flatten ((madeCells z N).toList.take (n * zs.length)) := by
 have hsz : ∀ el ∈ List.replicate n zs, el.length = zs.length := by
  intro el hel; rw [List.eq_of_mem_replicate hel]
 obtain ⟨hl, hg⟩ := RVs_get.1 h
 simp only [Array.length_toList] at hl
 refine RVs_get.2 ⟨by rw [flatten_len hsz]; simp [size_madeCells]; omega, fun k e hk => ?_⟩
 have hkl : k < n * zs.length := by
  have := (List.getElem?_eq_some_iff.1 hk).1
  rwa [flatten_len hsz, List.length_replicate] at this
 have hj : k % zs.length < zs.length := Nat.mod_lt _ h0
 have hf := flatten_get hsz (k / zs.length) (k % zs.length) hj
 rw [Nat.mul_comm (k / zs.length), Nat.div_add_mod, hk] at hf
 have hi : k / zs.length < n := (Nat.div_lt_iff_lt_mul h0).2 hkl
 rw [List.getElem?_replicate, if_pos hi] at hf
 simp only [Option.bind_some] at hf
 obtain ⟨v, hv, hr⟩ := hg _ e hf.symm
 refine ⟨v, ?_, hr⟩
 rw [List.getElem?_take, if_pos hkl]
 have hkN : k < N := by omega
 rw [hl] at hv hj
 simp [madeCells, hkN]
 have hvv : z[k % z.size]? = some v := by simpa using hv
 rw [Array.getElem!_eq_getD, Array.getD_eq_getD_getElem?, hvv]
 rfl
theorem mks_sound (hI : Inv B w0 g os w) {t e : TypeId} {i : TypeInfo} {z : Value} (ht : P.underlying t = some (.slice e)) (hi : P.info? e = some i) (hz : i.zero = some z) {zs : List EV} (hzs : RVs g os zs z.cells.toList) (h1 : ones zs = true) (h0 : 0 < zs.length) (hs : i.size = zs.length) {ag : Bool}
 {n c : Int} (hn : 0 ≤ n) (hc : n ≤ c) (hb : c * i.bytes ≤ 140737488355328) (h63 : c < 9223372036854775808)
 {id : Nat} (ho : os[id]? = some (.cells ⟨0, zs.length, ag, 0, List.replicate n.toNat zs⟩)) (hp : g.ph id = none) :
 Born B w0 g os id (.arr id 0 zs.length 0 n.toNat false) ((Instr.makeSlice t (.int .i64 n) (.int .i64 c)).run P w) := by
 have hr := run_make (P := P) w t e i z ht hi hz .i64 .i64 n c hn hc (by rw [Int.mul_comm]; omega) (by omega)
 have hnc : n.toNat ≤ c.toNat := by omega
 have hm : n.toNat * zs.length ≤ c.toNat * zs.length := Nat.mul_le_mul_right _ hnc
 refine ⟨_, _, g.at id (w.heap.size, 0, c.toNat), hr, hI.birth ho hp (fits_rows hI (by intro el hel; rw [List.eq_of_mem_replicate hel]) h0 (by intro el hel; rw [List.eq_of_mem_replicate hel]; exact h1) ?_ (by rw [List.length_replicate]; exact hnc) (by simp [size_madeCells, hs]) ag e (Nat.le_refl _) (heap_alloc_new w _) 0), Ext.birth g os hp _, arr_new h0 hnc (Nat.le_refl _) false (by simp) ho, fun i hi h => ⟨hi, h⟩, fun i hi h => by rw [Gh.at_other _ _ hi]; exact h, fun _ h => h⟩
 rw [List.length_replicate]
 exact RVs_made hzs h0 (by rw [hs]; exact hm)
def RowsAre (g : Gh) (os : List Obj) : List (Nat × Value) → List (Nat × EV) → Prop
 | [], ps => ps = []
 | (i, v) :: r, ps => ∃ e ps', ps = (i, e) :: ps' ∧ RV g os e v ∧ RowsAre g os r ps'
theorem layEls_sound {sz : Nat} (h0 : 0 < sz) : ∀ {parts : List (Nat × Value)} {ps : List (Nat × EV)} {els r : List (List EV)} {vs : Array Value},
 RowsAre g os parts ps → (∀ el ∈ els, el.length = sz) → (∀ el ∈ els, ones el = true) → RVs g os els.flatten vs.toList → layEls sz els ps = some r →
 ∃ us, Instr.fill (fun i => some (i * sz, sz)) vs parts = some us ∧ RVs g os r.flatten us.toList ∧ (∀ el ∈ r, el.length = sz) ∧ (∀ el ∈ r, ones el = true) ∧ r.length = els.length
 | [], ps, els, r, vs, hp, h1, h2, hv, h => by
  simp only [RowsAre] at hp
  subst hp
  simp [layEls] at h
  subst h
  exact ⟨vs, rfl, hv, h1, h2, rfl⟩
 | (i, v) :: parts, ps, els, r, vs, hp, h1, h2, hv, h => by
  simp only [RowsAre] at hp
  obtain ⟨e, ps', rfl, hr, hp⟩ := hp
  rw [layEls] at h
  split at h
  · rename_i hc
    obtain ⟨c1, c2, c3⟩ := hc
    have hcs := hr.cells c3
    have hl := (RVs_get.1 hv).1
    have hl2 := (RVs_get.1 hcs).1
    rw [flatten_len h1] at hl
    simp only [Array.length_toList] at hl hl2
    have hin : i * sz + sz ≤ vs.size := by
     rw [← hl, show i * sz + sz = (i + 1) * sz by rw [Nat.add_mul]; omega]
     exact Nat.mul_le_mul_right _ c2
    have hz := foldSet vs (i * sz) v.cells.toList 0 (by simp; omega)
    have hfold : v.cells.zipIdx.foldl (fun cs (x : Value × Nat) => cs.setIfInBounds (i * sz + x.2) x.1) vs = (vs.toList.take (i * sz) ++ v.cells.toList ++ vs.toList.drop (i * sz + sz)).toArray := by
     rw [← Array.foldl_toList, Array.toList_zipIdx]
     simp only [Nat.add_zero, Array.length_toList] at hz
     rw [hz, ← hl2, c1]
    have hs := RVs_splice hv hcs (i * sz) sz
    rw [← flatten_set h1 i e.cells c2] at hs
    obtain ⟨us, hu, hru, q1, q2, q3⟩ := layEls_sound h0 (els := els.set i e.cells) (vs := (vs.toList.take (i * sz) ++ v.cells.toList ++ vs.toList.drop (i * sz + sz)).toArray) hp
     (by intro el hel; rcases List.mem_or_eq_of_mem_set hel with q | q; exact h1 el q; rw [q]; exact c1)
     (by intro el hel; rcases List.mem_or_eq_of_mem_set hel with q | q; exact h2 el q; rw [q]; exact c3) (by simpa using hs) h
    refine ⟨us, ?_, hru, q1, q2, by simpa using q3⟩
    simp only [Instr.fill]
    rw [if_neg (by simp; omega)]
    rw [← hu, ← hfold]
  · cases h
theorem lit_sound (hI : Inv B w0 g os w) {t e : TypeId} {i : TypeInfo} {z : Value} (ht : P.underlying t = some (.slice e)) (hi : P.info? e = some i) (hz : i.zero = some z) {zs : List EV} (hzs : RVs g os zs z.cells.toList) (h1 : ones zs = true) (h0 : 0 < zs.length) (hs : i.size = zs.length) (hzz : z.cells.size = zs.length) {ag : Bool}
 {len : Nat} (hlen : len * i.size ≤ 16777216) {parts : Array (Nat × Value)} {ps : List (Nat × EV)} (hps : RowsAre g os parts.toList ps) {r : List (List EV)} (h : layEls zs.length (List.replicate len zs) ps = some r)
 {id : Nat} (ho : os[id]? = some (.cells ⟨0, zs.length, ag, 0, r⟩)) (hp : g.ph id = none) :
 Born B w0 g os id (.arr id 0 zs.length 0 r.length true) ((Instr.buildSlice t len parts).run P w) := by
 have hm := RVs_made (n := len) (N := len * zs.length) hzs h0 (Nat.le_refl _)
 rw [List.take_of_length_le (by simp [size_madeCells])] at hm
 obtain ⟨us, hu, hru, q1, q2, q3⟩ := layEls_sound h0 hps (by intro el hel; rw [List.eq_of_mem_replicate hel]) (by intro el hel; rw [List.eq_of_mem_replicate hel]; exact h1) hm h
 rw [List.length_replicate] at q3
 have hul : us.size = r.length * zs.length := by
  have := (RVs_get.1 hru).1
  rw [flatten_len q1] at this
  simpa using this.symm
 refine ⟨.slice (some ⟨w.heap.size, 0, none⟩) len len, w.alloc (.cells us e), g.at id (w.heap.size, 0, r.length), ?_, hI.birth ho hp (fits_rows hI q1 h0 q2 (by rw [List.take_of_length_le (by simp [hul])]; exact hru) (Nat.le_refl _) (by rw [hul]; exact Nat.le_refl _) ag e (Nat.le_refl _) (heap_alloc_new w _) 0), Ext.birth g os hp _, ?_, fun i hi h => ⟨hi, h⟩, fun i hi h => by rw [Gh.at_other _ _ hi]; exact h, fun _ h => h⟩
 · have hn : ¬ (16777216 < len * i.size) := by omega
   by_cases hz0 : len * i.size = 0
   · have hl0 : len = 0 := by
      rcases Nat.mul_eq_zero.1 hz0 with q | q
      · exact q
      · omega
     subst hl0
     have e0 : madeCells z.cells 0 = #[] := by simp [madeCells]
     simp only [Nat.zero_mul, e0] at hu
     simp only [Instr.buildSlice, Sem.run_bind, run_underlying ht, Result.andThen_ok, Go.sizeOf, typeInfo, hi, run_program, Sem.run_pure, Nat.zero_mul]
     have e1 : Array.map (fun (_ : Nat) => (default : Value)) (Array.range 0) = #[] := by simp
     simp [hs, newRow, e1, hu]
   · have hu' : Instr.fill (fun i => some (i * zs.length, zs.length)) (Array.map (fun x => z.cells[x % z.cells.size]!) (Array.range (len * zs.length))) parts.toList = some us := by
      simpa [madeCells] using hu
     have hz0' : ¬ (len * zs.length = 0) := by rw [← hs]; exact hz0
     have hn' : ¬ (16777216 < len * zs.length) := by rw [← hs]; exact hn
     simp [Instr.buildSlice, run_underlying ht, Go.sizeOf, typeInfo, hi, hs, hn', hz0', zeroValue, hz, hu', newRow]
 · rw [← q3]
   exact arr_new h0 (Nat.le_refl _) (Nat.le_refl _) true (fun _ => rfl) ho
end Dk
namespace Dk
open Go Go.RowKit
variable [Globs] [SiteRel] {P : Program} {B : Nat} {w0 w : World} {g : Gh} {os : List Obj}
theorem splice_get {α : Type} (l vs : List α) (s : Nat) (h : s + vs.length ≤ l.length) (k : Nat) :
 (l.take s ++ vs ++ l.drop (s + vs.length))[k]? = if k < s then l[k]? else if k < s + vs.length then vs[k - s]? else l[k]? := by
 rw [List.append_assoc, List.getElem?_append]
 simp only [List.length_take]
 have hm : min s l.length = s := by omega
 rw [hm]
 split
 · rw [List.getElem?_take, if_pos ‹_›]
 · rw [List.getElem?_append]
   split
   · rw [if_pos (by omega)]
   · rw [if_neg (by omega), List.getElem?_drop]
     congr 1
     omega
theorem arr_live (hI : Inv B w0 g os w) {id b base tot : Nat} {ar : Arr} (ho : os[id]? = some (.cells ar)) (hp : g.ph id = some (b, base, tot)) :
 ∃ cur T, w.heap[b]? = some (.cells cur T (0, 0)) ∧ 0 < ar.sz ∧ ar.els.length ≤ tot ∧ base + tot * ar.sz ≤ cur.size ∧ (∀ o v, g.rd b o = some v → o < base + ar.frz * ar.sz) ∧
  (∀ (i : Nat) (el : List EV), ar.els[i]? = some el → el.length = ar.sz ∧ ∀ (j : Nat) (e : EV), el[j]? = some e → ∃ v, cur[base + i * ar.sz + j]? = some v ∧ v.oneCell' = true ∧ RV g os e v) := by
 obtain ⟨h1, h2, h3, cur, T, h4, h5, h6⟩ := hI.cells id ar b base tot ho hp
 exact ⟨cur, T, h4, h1, h2, h5, h3, h6⟩
theorem Ext.set {id : Nat} {ar ar' : Arr} (ho : os[id]? = some (.cells ar)) (x : Nat × Nat × Nat) (hg : ar.gen ≤ ar'.gen) (hs : ar'.gen = ar.gen → ar'.sz = ar.sz ∧ g.ph id = some x) : Ext g os (g.at id x) (os.set id (.cells ar')) := by
 have hlt := (List.getElem?_eq_some_iff.1 ho).1
 refine ⟨fun _ _ _ h => h, fun i a h => ?_, fun i es h => ?_, fun i lo h => ?_, fun _ _ h => h.2, fun i s h => ?_⟩
 · by_cases hi : i = id
   · subst hi
     rw [ho] at h; cases h
     refine ⟨ar', by simp [hlt], hg, fun e => ⟨(hs e).1, fun y hy => ?_⟩⟩
     rw [Gh.at_same, ← hy, (hs e).2]
   · refine ⟨a, by rw [List.getElem?_set_ne (fun e => hi e.symm)]; exact h, Nat.le_refl _, fun _ => ⟨rfl, fun y hy => ?_⟩⟩
     rw [Gh.at_other _ _ hi]; exact hy
 · by_cases hi : i = id
   · subst hi
     rw [ho] at h; cases h
   · refine ⟨es, by rw [List.getElem?_set_ne (fun e => hi e.symm)]; exact h, fun y hy => ?_⟩
     rw [Gh.at_other _ _ hi]; exact hy
 · by_cases hi : i = id
   · subst hi
     rw [ho] at h; cases h
   · refine ⟨lo, by rw [List.getElem?_set_ne (fun e => hi e.symm)]; exact h, fun y hy => ?_⟩
     rw [Gh.at_other _ _ hi]; exact hy
 · by_cases hi : i = id
   · subst hi
     rw [ho] at h; cases h
   · refine ⟨s, by rw [List.getElem?_set_ne (fun e => hi e.symm)]; exact h, fun y hy => ?_⟩
     rw [Gh.at_other _ _ hi]; exact hy
theorem Ext.setMap {id : Nat} {es es' : List (PD × EV)} (ho : os[id]? = some (.map es)) {x : Nat × Nat × Nat} (hp : g.ph id = some x) : Ext g os (g.at id x) (os.set id (.map es')) := by
 have hlt := (List.getElem?_eq_some_iff.1 ho).1
 refine ⟨fun _ _ _ h => h, fun i a h => ?_, fun i es h => ?_, fun i lo h => ?_, fun _ _ h => h.2, fun i s h => ?_⟩
 · by_cases hi : i = id
   · subst hi
     rw [ho] at h; cases h
   · refine ⟨a, by rw [List.getElem?_set_ne (fun e => hi e.symm)]; exact h, Nat.le_refl _, fun _ => ⟨rfl, fun y hy => ?_⟩⟩
     rw [Gh.at_other _ _ hi]; exact hy
 · by_cases hi : i = id
   · subst hi
     refine ⟨es', by simp [hlt], fun y hy => ?_⟩
     rw [Gh.at_same, ← hy, hp]
   · refine ⟨es, by rw [List.getElem?_set_ne (fun e => hi e.symm)]; exact h, fun y hy => ?_⟩
     rw [Gh.at_other _ _ hi]; exact hy
 · by_cases hi : i = id
   · subst hi
     rw [ho] at h; cases h
   · refine ⟨lo, by rw [List.getElem?_set_ne (fun e => hi e.symm)]; exact h, fun y hy => ?_⟩
     rw [Gh.at_other _ _ hi]; exact hy
 · by_cases hi : i = id
   · subst hi
     rw [ho] at h; cases h
   · refine ⟨s, by rw [List.getElem?_set_ne (fun e => hi e.symm)]; exact h, fun y hy => ?_⟩
     rw [Gh.at_other _ _ hi]; exact hy
theorem Ext.setLoop {id : Nat} {lo lo' : LoopO} (ho : os[id]? = some (.loop lo)) {x : Nat × Nat × Nat} (hp : g.ph id = some x) : Ext g os (g.at id x) (os.set id (.loop lo')) := by
 have hlt := (List.getElem?_eq_some_iff.1 ho).1
 refine ⟨fun _ _ _ h => h, fun i a h => ?_, fun i es h => ?_, fun i es h => ?_, fun _ _ h => h.2, fun i s h => ?_⟩
 · by_cases hi : i = id
   · subst hi
     rw [ho] at h; cases h
   · refine ⟨a, by rw [List.getElem?_set_ne (fun e => hi e.symm)]; exact h, Nat.le_refl _, fun _ => ⟨rfl, fun y hy => ?_⟩⟩
     rw [Gh.at_other _ _ hi]; exact hy
 · by_cases hi : i = id
   · subst hi
     rw [ho] at h; cases h
   · refine ⟨es, by rw [List.getElem?_set_ne (fun e => hi e.symm)]; exact h, fun y hy => ?_⟩
     rw [Gh.at_other _ _ hi]; exact hy
 · by_cases hi : i = id
   · subst hi
     refine ⟨lo', by simp [hlt], fun y hy => ?_⟩
     rw [Gh.at_same, ← hy, hp]
   · refine ⟨es, by rw [List.getElem?_set_ne (fun e => hi e.symm)]; exact h, fun y hy => ?_⟩
     rw [Gh.at_other _ _ hi]; exact hy
 · by_cases hi : i = id
   · subst hi
     rw [ho] at h; cases h
   · refine ⟨s, by rw [List.getElem?_set_ne (fun e => hi e.symm)]; exact h, fun y hy => ?_⟩
     rw [Gh.at_other _ _ hi]; exact hy
theorem Ext.setBld {id : Nat} {lo lo' : Option ByteArray} (ho : os[id]? = some (.bld lo)) {x : Nat × Nat × Nat} (hp : g.ph id = some x) : Ext g os (g.at id x) (os.set id (.bld lo')) := by
 have hlt := (List.getElem?_eq_some_iff.1 ho).1
 refine ⟨fun _ _ _ h => h, fun i a h => ?_, fun i es h => ?_, fun i es h => ?_, fun _ _ h => h.2, fun i s h => ?_⟩
 · by_cases hi : i = id
   · subst hi
     rw [ho] at h; cases h
   · refine ⟨a, by rw [List.getElem?_set_ne (fun e => hi e.symm)]; exact h, Nat.le_refl _, fun _ => ⟨rfl, fun y hy => ?_⟩⟩
     rw [Gh.at_other _ _ hi]; exact hy
 · by_cases hi : i = id
   · subst hi
     rw [ho] at h; cases h
   · refine ⟨es, by rw [List.getElem?_set_ne (fun e => hi e.symm)]; exact h, fun y hy => ?_⟩
     rw [Gh.at_other _ _ hi]; exact hy
 · by_cases hi : i = id
   · subst hi
     rw [ho] at h; cases h
   · refine ⟨es, by rw [List.getElem?_set_ne (fun e => hi e.symm)]; exact h, fun y hy => ?_⟩
     rw [Gh.at_other _ _ hi]; exact hy
 · by_cases hi : i = id
   · subst hi
     refine ⟨lo', by simp [hlt], fun y hy => ?_⟩
     rw [Gh.at_same, ← hy, hp]
   · refine ⟨s, by rw [List.getElem?_set_ne (fun e => hi e.symm)]; exact h, fun y hy => ?_⟩
     rw [Gh.at_other _ _ hi]; exact hy
def Does (lim B : Nat) (w0 : World) (g : Gh) (os os' : List Obj) (m : Result Unit) : Prop :=
 ∃ w' g', m = .ok () w' ∧ Inv B w0 g' os' w' ∧ Ext g os g' os' ∧ Kept lim g os g' os'
theorem kept_ph {lim : Nat} (hI : Inv B w0 g os w) {id : Nat} {x : Nat × Nat × Nat} (hp : g.ph id = some x) (y : Nat × Nat × Nat) (ob : Obj) : Kept lim g os (g.at id y) (os.set id ob) := by
 refine ⟨fun i _ => ?_, fun _ h => h⟩
 refine ⟨fun h => ?_, fun _ h => ?_⟩
 · have hne : i ≠ id := fun e => by subst e; rw [(hI.pend i h).1] at hp; cases hp
   exact ⟨⟨hne, h⟩, List.getElem?_set_ne (Ne.symm hne)⟩
 · have hne : i ≠ id := fun e => by subst e; rw [h] at hp; cases hp
   rw [Gh.at_other _ _ hne]; exact h
theorem kept_not {lim id : Nat} (hp : ¬ g.pend id) (hl : lim ≤ id) (y : Nat × Nat × Nat) (ob : Obj) : Kept lim g os (g.at id y) (os.set id ob) := by
 refine ⟨fun i _ => ?_, fun _ h => h⟩
 refine ⟨fun h => ?_, fun hi h => ?_⟩
 · have hne : i ≠ id := fun e => hp (e ▸ h)
   exact ⟨⟨hne, h⟩, List.getElem?_set_ne (Ne.symm hne)⟩
 · rw [Gh.at_other _ _ (by omega)]; exact h
theorem kept_new {lim : Nat} (y : Nat × Nat × Nat) (ob : Obj) : Kept lim g os (g.at os.length y) (os ++ [ob]) := ⟨fun i hi =>
 ⟨fun h => ⟨⟨by omega, h⟩, List.getElem?_append_left hi⟩, fun _ h => by rw [Gh.at_other _ _ (by omega)]; exact h⟩, fun _ h => h⟩
theorem Kept.refl (lim : Nat) (g : Gh) (os : List Obj) : Kept lim g os g os := ⟨fun _ _ => ⟨fun h => ⟨h, rfl⟩, fun _ h => h⟩, fun _ h => h⟩
theorem store_sound (hI : Inv B w0 g os w) {t : TypeId} {ag : Bool} {n : Nat} (hT : TyIs P t ag n) {x v : EV} {vx vv : Value} (hx : RV g os x vx) (hv : RV g os v vv) {lim : Nat} {h' : Hp} (h : storeAt n x v ⟨os, lim⟩ = some h') :
 Does lim B w0 g os h'.objs ((Instr.storeAt t vx vv).run P w) ∧ h'.lim = lim := by
 unfold storeAt at h
 cases x with
 | ptr id gn i o =>
  simp only at h
  split at h
  · rename_i ar ha
    split at h
    · rename_i el he
      split at h
      · rename_i hc
        obtain ⟨c1, c2, c3, c4, c5⟩ := hc
        simp only [Option.some.injEq] at h; subst h
        refine ⟨?_, rfl⟩
        obtain ⟨b, o0, base, tot, rfl, hp, rfl, ho, hgen, _⟩ := ptr_at hI hx ha he
        obtain ⟨cur, T, hh, hsz, htot, hcur, hrd, hels⟩ := arr_live hI ho hp
        obtain ⟨hel, hcells⟩ := hels i el he
        have hvs := hv.cells c4
        have hvl : vv.cells.size = n := by
         have := (RVs_get.1 hvs).1
         rw [c2] at this
         simpa using this.symm
        have hilt : i < ar.els.length := (List.getElem?_eq_some_iff.1 he).1
        have hi1 : i * ar.sz + ar.sz ≤ tot * ar.sz := by
         rw [show i * ar.sz + ar.sz = (i + 1) * ar.sz by rw [Nat.add_mul]; omega]
         exact Nat.mul_le_mul_right _ (by omega)
        have hfit : base + i * ar.sz + o + 0 + vv.cells.toList.length ≤ cur.size := by simp [hvl]; omega
        have hst := run_storeCells_at P b (base + i * ar.sz + o) T vv.cells.toList 0 cur w hh hfit (RVs_one hvs c4)
        simp only [Nat.add_zero, Array.length_toList, hvl] at hst hfit
        refine ⟨w.setRow b (cur.toList.take (base + i * ar.sz + o) ++ vv.cells.toList ++ cur.toList.drop (base + i * ar.sz + o + n)).toArray, g.at id (b, base, tot), ?_, hI.upd (ob := .cells { ar with els := ar.els.set i (el.take o ++ v.cells ++ el.drop (o + n)) }) (Chg.setRow w b _) (by simp; exact (Array.getElem?_eq_some_iff.1 hh).1) (hI.high id b base tot hp) (.inl ⟨base, tot, hp⟩) (fun k hk => by
         simp only [Hp.setArr]; rw [List.getElem?_set_ne (fun e => hk e.symm)]) (by simp only [Hp.setArr]; exact List.getElem?_set_self (List.getElem?_eq_some_iff.1 ho).1) (Ext.set ho _ (Nat.le_refl _) (fun _ => ⟨rfl, hp⟩)) ?_ ?_, Ext.set ho _ (Nat.le_refl _) (fun _ => ⟨rfl, hp⟩), kept_ph hI hp _ _⟩
        · simp only [Instr.storeAt, Instr.sureAddr, Sem.run_bind, Sem.run_pure, Result.andThen_ok, storeVar, hT.size, hvl, ne_eq, not_true_eq_false, if_false]
          exact hst
        · intro o' v' hv'
          have hlt := hrd o' v' hv'
          have hfi : ar.frz * ar.sz ≤ i * ar.sz := Nat.mul_le_mul_right _ c3
          have hold := (hI.rdok b o' v' hv').1
          rw [cell_of_row w b o' cur T (0, 0) hh] at hold
          rw [cell_setRow_same w b o' cur _ T (0, 0) hh]
          have := splice_get cur.toList vv.cells.toList (base + i * ar.sz + o) (by simp [hvl]; omega) o'
          simp only [Array.length_toList, hvl] at this
          rw [List.getElem?_toArray, this, if_pos (by omega)]
          simpa using hold
        · refine ⟨hsz, by simp; exact htot, hrd, _, T, setRow_heap w b cur _ T (0, 0) hh, ?_, ?_⟩
          · simp only [List.size_toArray, List.length_append, List.length_take, List.length_drop, Array.length_toList, hvl]
            omega
          · intro i' el' hi'
            have hget : ∀ k, (cur.toList.take (base + i * ar.sz + o) ++ vv.cells.toList ++ cur.toList.drop (base + i * ar.sz + o + n)).toArray[k]? =
             if k < base + i * ar.sz + o then cur[k]? else if k < base + i * ar.sz + o + n then vv.cells[k - (base + i * ar.sz + o)]? else cur[k]? := by
             intro k
             have := splice_get cur.toList vv.cells.toList (base + i * ar.sz + o) (by simp [hvl]; omega) k
             simp only [Array.length_toList, hvl] at this
             rw [List.getElem?_toArray, this]
             simp
            by_cases hii : i' = i
            · subst hii
              simp only [List.getElem?_set_self hilt, Option.some.injEq] at hi'
              subst hi'
              refine ⟨by simp [c2]; omega, fun j e hj => ?_⟩
              have hsp := splice_get el v.cells o (by omega) j
              rw [c2] at hsp
              rw [hsp] at hj
              simp only [hget]
              split at hj
              · rw [if_pos (by omega)]
                exact hcells j e hj
              · split at hj
                · rw [if_neg (by omega), if_pos (by omega)]
                  obtain ⟨u, hu, hr⟩ := (RVs_get.1 hvs).2 _ e hj
                  refine ⟨u, ?_, hr.one (ones_get c4 hj), hr⟩
                  rw [show base + i' * ar.sz + j - (base + i' * ar.sz + o) = j - o by omega]
                  simpa using hu
                · rw [if_neg (by omega), if_neg (by omega)]
                  exact hcells j e hj
            · rw [List.getElem?_set_ne (fun e => hii e.symm)] at hi'
              obtain ⟨q1, q2⟩ := hels i' el' hi'
              refine ⟨q1, fun j e hj => ?_⟩
              have hjl : j < ar.sz := by rw [← q1]; exact (List.getElem?_eq_some_iff.1 hj).1
              simp only [hget]
              rcases Nat.lt_or_gt_of_ne hii with hlt | hgt
              · have : i' * ar.sz + ar.sz ≤ i * ar.sz := by
                 rw [show i' * ar.sz + ar.sz = (i' + 1) * ar.sz by rw [Nat.add_mul]; omega]
                 exact Nat.mul_le_mul_right _ (by omega)
                rw [if_pos (by omega)]
                exact q2 j e hj
              · have : i * ar.sz + ar.sz ≤ i' * ar.sz := by
                 rw [show i * ar.sz + ar.sz = (i + 1) * ar.sz by rw [Nat.add_mul]; omega]
                 exact Nat.mul_le_mul_right _ (by omega)
                rw [if_neg (by omega), if_neg (by omega)]
                exact q2 j e hj
      · cases h
    · cases h
  · cases h
 | _ => simp at h
def Reads (P : Program) (w : World) (size n : Nat) (v : Value) (us : List Value) : Prop := ∀ w' : World, w'.heap = w.heap → (Builtin.firstCells size n v).run P w' = .ok us.toArray w'
theorem cell_heap {w w' : World} (h : w'.heap = w.heap) (a : Addr) : w'.cell? a = w.cell? a := by simp [World.cell?, h]
theorem reads_at {b o size n c : Nat} {us : List Value} (hl : us.length = n * size) (h : ∀ j u, us[j]? = some u → w.cell? ((⟨b, o, none⟩ : Addr).add j) = some u) : Reads P w size n (.slice (some ⟨b, o, none⟩) n c) us := by
 intro w' hw
 have := run_loadCells_list (P := P) w' ⟨b, o, none⟩ us (fun j u hj => by rw [cell_heap hw]; exact h j u hj)
 simp only [Builtin.firstCells, ← hl]
 exact this
theorem reads_none {size : Nat} {a : Option Addr} {c : Nat} : Reads P w size 0 (.slice a 0 c) [] := by
 intro w' _
 cases a <;> simp [Builtin.firstCells, loadCells, loadCellsFrom]
theorem flatten_at {b o sz : Nat} {els : List (List EV)} (hsz : ∀ el ∈ els, el.length = sz) (h : ∀ (i : Nat) (el : List EV), els[i]? = some el → At g os w b (o + i * sz) el) : At g os w b o els.flatten := by
 intro k e hk
 have hkl : k < els.length * sz := by
  have := (List.getElem?_eq_some_iff.1 hk).1
  rwa [flatten_len hsz] at this
 have h0 : 0 < sz := by
  rcases Nat.eq_zero_or_pos sz with q | q
  · subst q; simp at hkl
  · exact q
 have hf := flatten_get hsz (k / sz) (k % sz) (Nat.mod_lt _ h0)
 rw [Nat.mul_comm (k / sz), Nat.div_add_mod, hk] at hf
 cases hi : els[k / sz]? with
 | none => simp [hi] at hf
 | some el =>
  simp only [hi, Option.bind_some] at hf
  obtain ⟨u, hu, h1, hr⟩ := h _ el hi (k % sz) e hf.symm
  refine ⟨u, ?_, h1, hr⟩
  rw [← hu]
  congr 2
  have := Nat.div_add_mod k sz
  rw [Nat.mul_comm] at this
  omega
theorem list_els {xs : List PD} {v : Value} (hp : RP g.rd (.list xs) v) (hI : Inv B w0 g os w) {sz : Nat} (hz : sized sz xs = true) :
 ∃ a c us, v = .slice a (xs.map toEV).length c ∧ Reads P w sz (xs.map toEV).length v us ∧ RVs g os (xs.map toEV).flatten us ∧ (∀ u ∈ us, u.oneCell' = true) ∧ (∀ el ∈ xs.map toEV, el.length = sz) := by
 have hl : ∀ el ∈ xs.map toEV, el.length = sz := by
  intro el hel
  obtain ⟨x, hx, rfl⟩ := List.mem_map.1 hel
  obtain ⟨i, hi⟩ := List.mem_iff_getElem?.1 hx
  simpa [toEV] using sized_get hz hi
 simp only [RP] at hp
 obtain ⟨a, cap, rfl, hc, hq⟩ := hp
 rcases hq with rfl | ⟨b, o, sz', rfl, hsp, hq⟩
 · exact ⟨a, cap, [], by simp, by simpa using reads_none, by simp [RVs], by simp, by simp⟩
 · cases xs with
   | nil => exact ⟨_, cap, [], by simp; rfl, by simpa using reads_none, by simp [RVs], by simp, by simp⟩
   | cons x0 xr =>
    have e1 := (RPl_get.1 hq 0 x0 (by simp)).1
    have e2 := sized_get hz (i := 0) (x := x0) (by simp)
    have : sz' = sz := by omega
    subst this
    have hat : At g os w b o ((x0 :: xr).map toEV).flatten := by
     refine flatten_at hl (fun i el hi => ?_)
     rw [List.getElem?_map] at hi
     cases hx : (x0 :: xr)[i]? with
     | none => simp [hx] at hi
     | some x =>
      simp [hx] at hi; subst hi
      obtain ⟨q1, q2⟩ := RPl_get.1 hq i x hx
      intro j e hj
      rw [toEV, List.getElem?_map] at hj
      cases hy : x.cells[j]? with
      | none => simp [hy] at hj
      | some y =>
       simp [hy] at hj; subst hj
       obtain ⟨u, hu, hr⟩ := RPcs_get.1 q2 j y hy
       obtain ⟨p1, p2⟩ := hI.rdok _ _ _ hu
       exact ⟨u, p1, p2, by simpa [RV] using hr⟩
    obtain ⟨us, h1, h2, h3⟩ := hat.vals
    refine ⟨_, cap, us, by rw [List.length_map], ?_, h1, h2, hl⟩
    rw [List.length_map]
    exact reads_at (by rw [← (RVs_get.1 h1).1, flatten_len hl, List.length_map]) h3
theorem arr_els (hI : Inv B w0 g os w) {id gn s off len : Nat} {f : Bool} {v : Value} (hv : RV g os (.arr id gn s off len f) v) {lim : Nat} {ar : Arr} (ha : Hp.arr ⟨os, lim⟩ id gn = some ar) (hle : off + len ≤ ar.els.length) :
 ∃ a c us, v = .slice a len c ∧ Reads P w s len v us ∧ RVs g os ((ar.els.drop off).take len).flatten us ∧ (∀ u ∈ us, u.oneCell' = true) ∧ (∀ el ∈ (ar.els.drop off).take len, el.length = s) ∧ ((ar.els.drop off).take len).length = len := by
 unfold Hp.arr at ha
 simp only [RV] at hv
 obtain ⟨hs, a, cap, ar', rfl, hc, ho, hg, hx, hy⟩ := hv
 simp only [ho] at ha
 split at ha
 · rename_i hgen
   simp at ha; subst ha
   have hlen : ((ar'.els.drop off).take len).length = len := by simp; omega
   obtain ⟨hss, hff⟩ := hx hgen
   by_cases hl0 : len = 0
   · subst hl0
     exact ⟨a, cap, [], rfl, reads_none, by simp [RVs], by simp, by simp, hlen⟩
   · obtain ⟨b, o0, rfl, hz⟩ := hy (by omega)
     obtain ⟨base, tot, hp, rfl, ht⟩ := hz hgen
     obtain ⟨cur, T, hh, hsz, htot, hcur, hrd, hels⟩ := arr_live hI ho hp
     rw [hss] at hels hcur hsz
     have hl : ∀ el ∈ (ar'.els.drop off).take len, el.length = s := by
      intro el hel
      have hm : el ∈ ar'.els := List.mem_of_mem_drop (List.mem_of_mem_take hel)
      obtain ⟨i, hi⟩ := List.mem_iff_getElem?.1 hm
      exact (hels i el hi).1
     have hat : At g os w b (base + off * s) ((ar'.els.drop off).take len).flatten := by
      refine flatten_at hl (fun i el hi => ?_)
      rw [List.getElem?_take] at hi
      split at hi
      · rw [List.getElem?_drop] at hi
        obtain ⟨_, q⟩ := hels _ el hi
        intro j e hj
        obtain ⟨u, hu, h1, hr⟩ := q j e hj
        refine ⟨u, ?_, h1, hr⟩
        rw [cell_of_row w b _ cur T (0, 0) hh, ← hu]
        congr 1
        rw [Nat.add_mul]; omega
      · cases hi
     obtain ⟨us, h1, h2, h3⟩ := hat.vals
     exact ⟨_, cap, us, rfl, reads_at (by rw [← (RVs_get.1 h1).1, flatten_len hl, hlen]) h3, h1, h2, hl, hlen⟩
 · cases ha
theorem els_sound (hI : Inv B w0 g os w) {sz : Nat} {x : EV} {v : Value} (hv : RV g os x v) {lim : Nat} {ys : List (List EV)} (h : elsOf sz x ⟨os, lim⟩ = some ys) :
 ∃ a c us, v = .slice a ys.length c ∧ Reads P w sz ys.length v us ∧ RVs g os ys.flatten us ∧ (∀ u ∈ us, u.oneCell' = true) ∧ (∀ el ∈ ys, el.length = sz) := by
 unfold elsOf at h
 cases x with
 | p x => cases x with
  | list xs =>
   simp only at h
   split at h
   · simp at h; subst h
     exact list_els hv.list_cases hI ‹_›
   · cases h
  | _ => simp at h
 | full xs =>
  simp only at h
  split at h
  · simp at h; subst h
    simp only [RV] at hv
    exact list_els hv.1 hI ‹_›
  · cases h
 | arr id gn s off len f =>
  simp only at h
  split at h
  · rename_i ar ha
    split at h
    · rename_i hc
      obtain ⟨rfl, hc2, hc3⟩ := hc
      simp at h; subst h
      obtain ⟨a, c, us, h1, h2, h3, h4, h5, h6⟩ := arr_els (P := P) hI hv ha hc3
      exact ⟨a, c, us, by rw [h6]; exact h1, by rw [h6]; exact h2, h3, h4, h5⟩
    · cases h
  · cases h
 | _ => simp at h
theorem sub_els (hI : Inv B w0 g os w) {id gn j o s len : Nat} {v : Value} (hv : RV g os (.sub id gn j o s len) v) {lim : Nat} {ar : Arr} (ha : Hp.arr ⟨os, lim⟩ id gn = some ar) {el : List EV} (hj : ar.els[j]? = some el) (hle : o + len * s ≤ el.length) :
 ∃ a c us, v = .slice a len c ∧ Reads P w s len v us ∧ RVs g os ((el.drop o).take (len * s)) us ∧ (∀ u ∈ us, u.oneCell' = true) := by
 unfold Hp.arr at ha
 simp only [RV] at hv
 obtain ⟨hs, a, cap, ar', rfl, hc, ho, hg, hy⟩ := hv
 simp only [ho] at ha
 split at ha
 · rename_i hgen
   simp at ha; subst ha
   by_cases hl0 : len = 0
   · subst hl0
     exact ⟨a, cap, [], rfl, reads_none, by simp [RVs], by simp⟩
   · obtain ⟨b, o0, rfl, hz⟩ := hy (by omega)
     obtain ⟨base, tot, hp, rfl⟩ := hz hgen
     obtain ⟨cur, T, hh, hsz, htot, hcur, hrd, hels⟩ := arr_live hI ho hp
     obtain ⟨hel, q⟩ := hels j el hj
     have hat : At g os w b (base + j * ar'.sz + o) ((el.drop o).take (len * s)) := by
      intro k e hk
      rw [List.getElem?_take] at hk
      split at hk
      · rw [List.getElem?_drop] at hk
        obtain ⟨u, hu, h1, hr⟩ := q (o + k) e hk
        refine ⟨u, ?_, h1, hr⟩
        rw [cell_of_row w b _ cur T (0, 0) hh, ← hu]
        congr 1
        omega
      · cases hk
     obtain ⟨us, h1, h2, h3⟩ := hat.vals
     refine ⟨_, cap, us, rfl, reads_at ?_ h3, h1, h2⟩
     rw [← (RVs_get.1 h1).1]
     simp
     omega
 · cases ha
theorem chunks_flat (el : List EV) (o sz : Nat) : ∀ len : Nat, o + len * sz ≤ el.length → ((List.range len).map fun i => (el.drop (o + i * sz)).take sz).flatten = (el.drop o).take (len * sz)
 | 0, _ => by simp
 | len + 1, h => by
  have e : (len + 1) * sz = len * sz + sz := by rw [Nat.add_mul, Nat.one_mul]
  rw [List.range_succ, List.map_append, List.flatten_append, chunks_flat el o sz len (by omega), e, List.take_add, List.drop_drop]
  simp
theorem elsX_sound (hI : Inv B w0 g os w) {sz : Nat} {x : EV} {v : Value} (hv : RV g os x v) {lim : Nat} {ys : List (List EV)} (h : elsX sz x ⟨os, lim⟩ = some ys) :
 ∃ a c us, v = .slice a ys.length c ∧ Reads P w sz ys.length v us ∧ RVs g os ys.flatten us ∧ (∀ u ∈ us, u.oneCell' = true) ∧ (∀ el ∈ ys, el.length = sz) := by
 unfold elsX at h
 split at h
 · cases h
   exact els_sound hI hv ‹_›
 · unfold subEls at h
   split at h
   · split at h
     · rename_i a ha
       split at h
       · rename_i el hel
         split at h
         · rename_i hc
           obtain ⟨e1, hc⟩ := hc
           have e2 := e1.symm
           subst e2
           cases h
           obtain ⟨a, c, us, h1, h2, h3, h4⟩ := sub_els (P := P) hI hv ha hel hc
           refine ⟨a, c, us, by simpa using h1, by simpa using h2, by rw [chunks_flat _ _ _ _ hc]; exact h3, h4, fun e he => ?_⟩
           obtain ⟨i, hi, rfl⟩ := List.mem_map.1 he
           have hi := List.mem_range.1 hi
           rw [List.length_take, List.length_drop]
           have := Nat.mul_le_mul_right sz (show i + 1 ≤ _ from hi)
           rw [Nat.add_mul, Nat.one_mul] at this
           omega
         · cases h
       · cases h
     · cases h
   · cases h
theorem run_app_room {t t2 ty e e2 : TypeId} {i : TypeInfo} (ht : P.underlying t = some (.slice e)) (ht2 : P.underlying t2 = some (.slice e2)) (hi : P.info? e = some i) {base : Option Addr} {sLen sCap n c : Nat} {xa : Option Addr} {us : List Value}
 (hr : Reads P w i.size n (.slice xa n c) us) (hroom : sLen + n ≤ sCap) {w' : World} (hst : ∀ a, base = some a → (storeCells (a.add (sLen * i.size)) us).run P w = .ok () w') (hn : base = none → w' = w) :
 (Builtin.append_ #[t, t2] ty #[.slice base sLen sCap, .slice xa n c]).run P w = .ok (.slice base (sLen + n) sCap) w' := by
 have h1 := hr w rfl
 cases base with
 | none =>
  have := hn rfl
  subst this
  simp [Builtin.append_, run_underlying ht, run_underlying ht2, Go.sizeOf, typeInfo, hi, Builtin.lenOf, hroom, h1]
 | some a => simp [Builtin.append_, run_underlying ht, run_underlying ht2, Go.sizeOf, typeInfo, hi, Builtin.lenOf, hroom, h1, hst a rfl]
theorem run_app_grow {t t2 ty e e2 : TypeId} {i : TypeInfo} {z : Value} (ht : P.underlying t = some (.slice e)) (ht2 : P.underlying t2 = some (.slice e2)) (hi : P.info? e = some i) (hz : i.zero = some z) {base : Option Addr} {sLen sCap n c : Nat} {xa : Option Addr} {us olds : List Value}
 (hr : Reads P w i.size n (.slice xa n c) us) (ho : Reads P w i.size sLen (.slice base sLen sCap) olds) (hroom : sCap < sLen + n) (hb : (sLen + n) * i.bytes ≤ 140737488355328) (h63 : sLen + n ≤ 9223372036854775807) :
 (Builtin.append_ #[t, t2] ty #[.slice base sLen sCap, .slice xa n c]).run P w =
  .ok (.slice (some ⟨w.heap.size, 0, none⟩) (sLen + n) (grownCap w (sLen + n) sCap e)) (w.drew.alloc (.cells (olds.toArray ++ (us.toArray ++ Builtin.zeroCells z.cells (grownCap w (sLen + n) sCap e - (sLen + n)))) e)) := by
 have hn : ¬ (sLen + n ≤ sCap) := by omega
 have h63' : ¬ (9223372036854775807 < ((sLen : Int) + (n : Int))) := by omega
 have h48' : ¬ (281474976710656 < Builtin.nextslicecap (sLen + n) sCap * i.bytes) := by have := growslice_fits hroom hb; omega
 have h1 := hr w.drew rfl
 have h2 := ho w.drew rfl
 simp [Builtin.append_, run_underlying ht, run_underlying ht2, Go.sizeOf, typeInfo, zeroValue, hi, hz, Builtin.lenOf, hn, h63', h48', Question.forced, h1, h2, newRow, grownCap]
theorem fits_vals (hI : Inv B w0 g os w) {els : List (List EV)} {sz : Nat} (hsz : ∀ el ∈ els, el.length = sz) (h0 : 0 < sz) {vs : Array Value} {tot : Nat} {us : List Value} (h1 : ∀ u ∈ us, u.oneCell' = true)
 (hv : RVs g os els.flatten us) (hu : vs.toList.take us.length = us) (ht : els.length ≤ tot) (hs : tot * sz ≤ vs.size) (ag : Bool) (T : TypeId) {w' : World} {b : Nat} (hb : w.heap.size ≤ b) (hw : w'.heap[b]? = some (.cells vs T (0, 0))) (gen frz : Nat) :
 Fits g os w' b 0 tot (.cells ⟨gen, sz, ag, frz, els⟩) := by
 refine ⟨h0, ht, fun o v h => (hI.rd_new hb h).elim, vs, T, hw, by simpa using hs, fun i el hi => ?_⟩
 have hm : el ∈ els := List.mem_of_getElem? hi
 refine ⟨hsz el hm, fun j e hj => ?_⟩
 have hjl : j < sz := by rw [← hsz el hm]; exact (List.getElem?_eq_some_iff.1 hj).1
 have hf := flatten_get hsz i j hjl
 rw [hi] at hf
 simp only [Option.bind_some, hj] at hf
 obtain ⟨v, hv', hr⟩ := (RVs_get.1 hv).2 _ e hf
 refine ⟨v, ?_, h1 v (List.mem_of_getElem? hv'), hr⟩
 rw [← hu, List.getElem?_take] at hv'
 split at hv'
 · simpa using hv'
 · cases hv'
structure Adds (P : Program) (w : World) (t t2 ty e : TypeId) (i : TypeInfo) (z vx : Value) (n : Nat) (us : List Value) : Prop where
 room : ∀ {base : Option Addr} {sLen sCap : Nat} {w' : World}, n * i.bytes ≤ 140737488355328 → sLen + n ≤ sCap → (∀ a, base = some a → (storeCells (a.add (sLen * i.size)) us).run P w = .ok () w') → (base = none → w' = w) →
  (Builtin.append_ #[t, t2] ty #[.slice base sLen sCap, vx]).run P w = .ok (.slice base (sLen + n) sCap) w'
 grow : ∀ {base : Option Addr} {sLen sCap : Nat} {olds : List Value}, Reads P w i.size sLen (.slice base sLen sCap) olds → sCap < sLen + n → (sLen + n) * i.bytes ≤ 140737488355328 → sLen + n ≤ 9223372036854775807 →
  (Builtin.append_ #[t, t2] ty #[.slice base sLen sCap, vx]).run P w =
   .ok (.slice (some ⟨w.heap.size, 0, none⟩) (sLen + n) (grownCap w (sLen + n) sCap e)) (w.drew.alloc (.cells (olds.toArray ++ (us.toArray ++ Builtin.zeroCells z.cells (grownCap w (sLen + n) sCap e - (sLen + n)))) e))
theorem adds_slice {t t2 ty e e2 : TypeId} {i : TypeInfo} {z : Value} (ht : P.underlying t = some (.slice e)) (ht2 : P.underlying t2 = some (.slice e2)) (hi : P.info? e = some i) (hz : i.zero = some z) {n c : Nat} {xa : Option Addr} {us : List Value}
 (hr : Reads P w i.size n (.slice xa n c) us) : Adds P w t t2 ty e i z (.slice xa n c) n us :=
 ⟨fun _ h1 h2 h3 => run_app_room ht ht2 hi hr h1 h2 h3, fun ho h1 h2 h3 => run_app_grow ht ht2 hi hz hr ho h1 h2 h3⟩
theorem adds_zero {t t2 ty e : TypeId} {k : IntKind} {i : TypeInfo} {z : Value} (ht : P.underlying t = some (.slice e)) (ht2 : P.underlying t2 = some (.int k)) (hi : P.info? e = some i) (hz : i.zero = some z) (hzs : z.cells.size = i.size) (h0 : 0 < i.size) (hby : 0 < i.bytes) (n : Nat) :
 Adds P w t t2 ty e i z (.int .i64 n) n (Builtin.zeroCells z.cells n).toList := by
 have wrap : ∀ m : Nat, m * i.bytes ≤ 140737488355328 → IntKind.i64.wrap (m : Int) = m ∧ ¬ (281474976710656 < (m : Int) * (i.bytes : Int)) := fun m hm => by
  have h1 : m * 1 ≤ m * i.bytes := Nat.mul_le_mul_left _ hby
  have h2 : ((m * i.bytes : Nat) : Int) = (m : Int) * (i.bytes : Int) := by simp
  refine ⟨?_, by omega⟩
  have hb : (2 : Int) ^ IntKind.i64.bits = 18446744073709551616 := by decide
  have hc : (2 : Int) ^ (IntKind.i64.bits - 1) = 9223372036854775808 := by decide
  simp only [IntKind.wrap, hb, hc, IntKind.signed, Bool.true_and, decide_eq_true_eq]
  split <;> omega
 have hnil : n * i.size = 0 → (Builtin.zeroCells z.cells n).toList = [] := fun h => by simp [Builtin.zeroCells, hzs, h]
 have ha : ∀ w : World, (asInt (.int .i64 (n : Int))).run P w = .ok (n : Int) w := fun w => by simp [asInt, asIntOf]
 refine ⟨fun {base sLen sCap w'} hb hroom hst hn => ?_, fun {base sLen sCap olds} ho hroom hb h63 => ?_⟩
 · obtain ⟨q1, q2⟩ := wrap n hb
   have q3 : ¬ ((n : Int) < 0) := by omega
   by_cases hns : n * i.size = 0
   · have hz0 := hnil hns
     cases base with
     | none =>
      have := hn rfl
      subst this
      simp only [Builtin.append_, List.getElem?_toArray]
      simp [run_underlying ht, run_underlying ht2, Go.sizeOf, typeInfo, hi, ha, q1, q2, hroom, hns]
      exact fun h => absurd h q3
     | some a =>
      have hs := hst a rfl
      rw [hz0] at hs
      simp only [Builtin.append_, List.getElem?_toArray]
      simp [run_underlying ht, run_underlying ht2, Go.sizeOf, typeInfo, hi, ha, q1, q2, hroom, hns, hs]
      exact fun h => absurd h q3
   · cases base with
     | none =>
      have := hn rfl
      subst this
      simp only [Builtin.append_, List.getElem?_toArray]
      simp [run_underlying ht, run_underlying ht2, Go.sizeOf, typeInfo, zeroValue, hi, hz, ha, q1, q2, hroom, hns]
      exact fun h => absurd h q3
     | some a =>
      have hs := hst a rfl
      simp only [Builtin.append_, List.getElem?_toArray]
      simp [run_underlying ht, run_underlying ht2, Go.sizeOf, typeInfo, zeroValue, hi, hz, ha, q1, q2, hroom, hns, hs]
      exact fun h => absurd h q3
 · have hb1 : n * i.bytes ≤ 140737488355328 := Nat.le_trans (Nat.mul_le_mul_right _ (by omega)) hb
   obtain ⟨q1, q2⟩ := wrap n hb1
   have q3 : ¬ ((n : Int) < 0) := by omega
   have hn : ¬ (sLen + n ≤ sCap) := by omega
   have h63' : ¬ (9223372036854775807 < ((sLen : Int) + (n : Int))) := by omega
   have h48' : ¬ (281474976710656 < Builtin.nextslicecap (sLen + n) sCap * i.bytes) := by have := growslice_fits hroom hb; omega
   have h2 := ho w.drew rfl
   by_cases hns : n * i.size = 0
   · have hz0 := hnil hns
     simp only [Builtin.append_, List.getElem?_toArray]
     simp [run_underlying ht, run_underlying ht2, Go.sizeOf, typeInfo, zeroValue, hi, hz, ha, q1, q2, hn, h63', h48', Question.forced, h2, newRow, grownCap, hz0, hns]
     exact fun h => absurd h q3
   · simp only [Builtin.append_, List.getElem?_toArray]
     simp [run_underlying ht, run_underlying ht2, Go.sizeOf, typeInfo, zeroValue, hi, hz, ha, q1, q2, hn, h63', h48', Question.forced, h2, newRow, grownCap, hns]
     exact fun h => absurd h q3
theorem grow_comes (hI : Inv B w0 g os w) {t t2 ty e : TypeId} {i : TypeInfo} {z : Value} (hzs : z.cells.size = i.size) (h0 : 0 < i.size)
 {base : Option Addr} {sLen sCap n : Nat} {vx : Value} {us olds : List Value} {xs ys : List (List EV)} (hx : RVs g os xs.flatten olds) (hx1 : ∀ u ∈ olds, u.oneCell' = true) (hxl : ∀ el ∈ xs, el.length = i.size) (hxn : xs.length = sLen)
 (hy : RVs g os ys.flatten us) (hy1 : ∀ u ∈ us, u.oneCell' = true) (hyl : ∀ el ∈ ys, el.length = i.size) (hyn : ys.length = n)
 (hA : Adds P w t t2 ty e i z vx n us) (ho : Reads P w i.size sLen (.slice base sLen sCap) olds) (hroom : sCap < sLen + n) (hb : (sLen + n) * i.bytes ≤ 140737488355328) (h63 : sLen + n ≤ maxLen) (ag : Bool) :
 ∃ w' cap, (Builtin.append_ #[t, t2] ty #[.slice base sLen sCap, vx]).run P w = .ok (.slice (some ⟨w.heap.size, 0, none⟩) (sLen + n) cap) w' ∧ Chg w w' w.heap.size ∧ w.heap.size < w'.heap.size ∧ sLen + n ≤ cap ∧
  ∀ gen frz, Fits g os w' w.heap.size 0 cap (.cells ⟨gen, i.size, ag, frz, xs ++ ys⟩) := by
 have hm : sLen + n ≤ 9223372036854775807 := by simp only [maxLen] at h63; omega
 have hrun := hA.grow ho hroom hb hm
 refine ⟨_, _, hrun, (Chg.alloc w.drew _).drew, by simp, grownCap_ge w _ _ _, fun gen frz => ?_⟩
 have hol : olds.length = sLen * i.size := by rw [← (RVs_get.1 hx).1, flatten_len hxl, hxn]
 have hul : us.length = n * i.size := by rw [← (RVs_get.1 hy).1, flatten_len hyl, hyn]
 have hge := grownCap_ge w (sLen + n) sCap e
 refine fits_vals hI (us := olds ++ us) (by intro el hel; rcases List.mem_append.1 hel with q | q; exact hxl el q; exact hyl el q) h0 (by intro u hu; rcases List.mem_append.1 hu with q | q; exact hx1 u q; exact hy1 u q)
  (by rw [List.flatten_append]; exact RVs_append hx hy) ?_ (by rw [List.length_append, hxn, hyn]; exact hge) ?_ ag e (Nat.le_refl _) (heap_alloc_new w.drew _) gen frz
 · simp only [Array.toList_append]
   rw [← List.append_assoc]
   exact List.take_left
 · simp only [Array.size_append, List.size_toArray, size_zeroCells, hzs, hol, hul]
   rw [← Nat.add_assoc, ← Nat.add_mul, ← Nat.add_mul]
   exact Nat.mul_le_mul_right _ (by omega)
theorem app_core (hI : Inv B w0 g os w) {t t2 ty e : TypeId} {i : TypeInfo} {z : Value} (hi : P.info? e = some i) (hzs : z.cells.size = i.size) (h0 : 0 < i.size) (hby : 0 < i.bytes) {ag : Bool}
 {s r : EV} {ys : List (List EV)} {us : List Value} {vs vx : Value} (hs : RV g os s vs) (hA : Adds P w t t2 ty e i z vx ys.length us) (hyv : RVs g os ys.flatten us) (hy1 : ∀ u ∈ us, u.oneCell' = true) (hyl : ∀ el ∈ ys, el.length = i.size)
 {lim : Nat} {h' : Hp} (h : appendEls i.size ag i.bytes s ys ⟨os, lim⟩ = some (r, h')) :
 Comes lim B w0 g os h'.objs r ((Builtin.append_ #[t, t2] ty #[vs, vx]).run P w) ∧ h'.lim = lim := by
 unfold appendEls at h
 · have hul : us.length = ys.length * i.size := by rw [← (RVs_get.1 hyv).1, flatten_len hyl]
   -- nothing is added
   have idle : ys.isEmpty = true → ∀ a len cap, vs = .slice a len cap → len ≤ cap → Comes lim B w0 g os os s ((Builtin.append_ #[t, t2] ty #[vs, vx]).run P w) := by
    intro hemp a len cap hv hle
    have hy0 : ys = [] := by simpa using hemp
    subst hy0
    have hu0 : us = [] := List.eq_nil_of_length_eq_zero (by simpa using hul)
    subst hu0
    subst hv
    refine ⟨_, w, g, hA.room (by simp) (by simpa using hle) (fun _ _ => rfl) (fun _ => rfl), hI, Ext.refl g os, by simpa using hs, Kept.refl lim g os⟩
   have big : ∀ n, (n + ys.length) * i.bytes ≤ 140737488355328 → n + ys.length ≤ maxLen := by
    intro n hn
    have : (n + ys.length) * 1 ≤ (n + ys.length) * i.bytes := Nat.mul_le_mul_left _ hby
    simp only [maxLen]
    omega
   cases s with
   | p px =>
    cases px with
    | list xs =>
     simp only at h
     split at h
     · simp at h
       obtain ⟨rfl, rfl⟩ := h
       have := hs.list_cases
       simp only [RP] at this
       obtain ⟨a, cap, rfl, hl, _⟩ := this
       exact ⟨idle ‹_› _ _ _ rfl hl, rfl⟩
     · cases h
    | _ => simp at h
   | full xs =>
    simp only at h
    split at h
    · simp at h
      obtain ⟨rfl, rfl⟩ := h
      have hs' := hs
      simp only [RV] at hs'
      obtain ⟨_, a, rfl⟩ := hs'
      exact ⟨idle ‹_› _ _ _ rfl (Nat.le_refl _), rfl⟩
    · rename_i hne
      split at h
      · rename_i hc
        simp at h
        obtain ⟨rfl, rfl⟩ := h
        refine ⟨?_, rfl⟩
        have hs' := hs
        simp only [RV] at hs'
        obtain ⟨hp, a, rfl⟩ := hs'
        obtain ⟨a', c', olds, he, ho, hxv, hx1, hxl⟩ := list_els (P := P) hp hI hc.1
        rw [List.length_map] at he ho
        cases he
        have hyp : 0 < ys.length := List.length_pos_iff.2 (by simpa using hne)
        obtain ⟨w', cap, hrun, hchg, hlt, hcap, hfit⟩ := grow_comes (P := P) (ty := ty) hI hzs h0 hxv hx1 hxl (by rw [List.length_map]) hyv hy1 hyl rfl hA ho (by omega) hc.2 (big _ hc.2) ag
        refine ⟨_, w', g.at os.length (w.heap.size, 0, cap), hrun, hI.upd hchg hlt hI.base (.inr (Nat.le_refl _)) (fun k hk => ?_) (by simp [Hp.new]) (Ext.new g os _ _) (fun o v hv => (hI.rd_new (Nat.le_refl _) hv).elim) (hfit 0 0), Ext.new g os _ _, arr_new h0 hcap (Nat.le_refl _) false (by simp) List.getElem?_concat_length, kept_new _ _⟩
        simp only [Hp.new]
        by_cases hlt' : k < os.length
        · rw [List.getElem?_append_left hlt']
        · rw [List.getElem?_eq_none_iff.2 (by simp; omega), List.getElem?_eq_none_iff.2 (by omega)]
      · cases h
   | arr id gn sz off len f =>
    simp only at h
    split at h
    · rename_i ar ha
      split at h
      · rename_i hc
        obtain ⟨rfl, c2, c3, c4, c5⟩ := hc
        have hs' := hs
        simp only [RV] at hs'
        obtain ⟨⟨_, hnp⟩, a, cap, ar', rfl, hle, ho, hg, hx1', hy'⟩ := hs'
        split at h
        · simp at h
          obtain ⟨rfl, rfl⟩ := h
          exact ⟨idle ‹_› _ _ _ rfl hle, rfl⟩
        · rename_i hne
          have hyp : 0 < ys.length := List.length_pos_iff.2 (by simpa using hne)
          obtain ⟨a', c', olds, he, hro, hxv, hx1, hxl, hxn⟩ := arr_els (P := P) hI hs ha c4
          cases he
          have har : ar' = ar ∧ ar.gen = gn := by
           unfold Hp.arr at ha
           simp only [ho] at ha
           split at ha
           · rename_i q; simp at ha; subst ha; exact ⟨rfl, q⟩
           · cases ha
          obtain ⟨rfl, hgen⟩ := har
          obtain ⟨hss, hff⟩ := hx1' hgen
          split at h
          · rename_i hf
            simp at h
            obtain ⟨rfl, rfl⟩ := h
            refine ⟨?_, rfl⟩
            have hcl := hff hf
            obtain ⟨w', cap', hrun, hchg, hlt, hcap, hfit⟩ := grow_comes (P := P) (ty := ty) hI hzs h0 hxv hx1 hxl hxn hyv hy1 hyl rfl hA hro (by omega) c5 (big _ c5) ag
            refine ⟨_, w', g.at os.length (w.heap.size, 0, cap'), hrun, hI.upd hchg hlt hI.base (.inr (Nat.le_refl _)) (fun k hk => ?_) (by simp [Hp.new]) (Ext.new g os _ _) (fun o v hv => (hI.rd_new (Nat.le_refl _) hv).elim) (hfit 0 0), Ext.new g os _ _, arr_new h0 hcap (Nat.le_refl _) false (by simp) List.getElem?_concat_length, kept_new _ _⟩
            simp only [Hp.new]
            by_cases hlt' : k < os.length
            · rw [List.getElem?_append_left hlt']
            · rw [List.getElem?_eq_none_iff.2 (by simp; omega), List.getElem?_eq_none_iff.2 (by omega)]
          · split at h
            · rename_i hf hc6
              simp at h
              obtain ⟨rfl, rfl⟩ := h
              refine ⟨?_, rfl⟩
              have hidl := (List.getElem?_eq_some_iff.1 ho).1
              have hother : ∀ (ob : Obj) (k : Nat), k ≠ id → (os.set id ob)[k]? = os[k]? := fun ob k hk => List.getElem?_set_ne (fun e => hk e.symm)
              by_cases hroom : len + ys.length ≤ cap
              · obtain ⟨b, o0, rfl, hz'⟩ := hy' (by omega)
                obtain ⟨base, tot, hp, rfl, htot⟩ := hz' hgen
                obtain ⟨cur, T, hh, hsz, htot2, hcur, hrdb, hels⟩ := arr_live hI ho hp
                rw [hss] at hels hcur hsz hrdb
                have e1 : (off + cap) * i.size ≤ tot * i.size := Nat.mul_le_mul_right _ htot
                have e2 : (off + (len + ys.length)) * i.size ≤ (off + cap) * i.size := Nat.mul_le_mul_right _ (by omega)
                rw [Nat.add_mul off (len + ys.length), Nat.add_mul len] at e2
                have hfit : base + off * i.size + len * i.size + 0 + us.length ≤ cur.size := by rw [hul]; omega
                have hst := run_storeCells_at P b (base + off * i.size + len * i.size) T us 0 cur w hh hfit hy1
                simp only [Nat.add_zero] at hst hfit
                have hrun := hA.room (base := some ⟨b, base + off * i.size, none⟩) (sLen := len) (sCap := cap) (w' := _) (Nat.le_trans (Nat.mul_le_mul_right _ (by omega)) c5) hroom (fun a ha => by cases ha; rw [Addr.add_lit]; exact hst) (fun q => by cases q)
                have hget : ∀ k, (cur.toList.take (base + off * i.size + len * i.size) ++ us ++ cur.toList.drop (base + off * i.size + len * i.size + us.length)).toArray[k]? =
                 if k < base + off * i.size + len * i.size then cur[k]? else if k < base + off * i.size + len * i.size + us.length then us[k - (base + off * i.size + len * i.size)]? else cur[k]? := by
                 intro k
                 have := splice_get cur.toList us (base + off * i.size + len * i.size) (by simpa using hfit) k
                 rw [List.getElem?_toArray, this]
                 simp
                have hExt : Ext g os (g.at id (b, base + off * i.size, tot - off)) (os.set id (.cells ⟨gn + 1, i.size, ag, ar'.frz - off, (ar'.els.drop off).take len ++ ys⟩)) :=
                 Ext.set ho _ (by simp; omega) (fun q => by simp at q; omega)
                refine ⟨_, _, g.at id (b, base + off * i.size, tot - off), hrun, hI.upd (ob := .cells ⟨gn + 1, i.size, ag, ar'.frz - off, (ar'.els.drop off).take len ++ ys⟩) (Chg.setRow w b _) (by simp; exact (Array.getElem?_eq_some_iff.1 hh).1) (hI.high id b base tot hp) (.inl ⟨base, tot, hp⟩) (hother _) (by simp [Hp.setArr, hidl]) hExt ?_ ?_, hExt, ?_, kept_not hnp hc6.2 _ _⟩
                · intro o' v' hv'
                  have hlt := hrdb o' v' hv'
                  have hfr : ar'.frz * i.size ≤ (off + len) * i.size := Nat.mul_le_mul_right _ hc6.1
                  rw [Nat.add_mul] at hfr
                  have hold := (hI.rdok b o' v' hv').1
                  rw [cell_of_row w b o' cur T (0, 0) hh] at hold
                  rw [cell_setRow_same w b o' cur _ T (0, 0) hh, hget, if_pos (by omega)]
                  exact hold
                · refine ⟨h0, by simp; omega, fun o' v' hv' => ?_, _, T, setRow_heap w b cur _ T (0, 0) hh, ?_, ?_⟩
                  · have hlt := hrdb o' v' hv'
                    rcases Nat.le_total off ar'.frz with q | q
                    · have : off * i.size + (ar'.frz - off) * i.size = ar'.frz * i.size := by rw [← Nat.add_mul]; congr 1; omega
                      simp only
                      omega
                    · have : ar'.frz * i.size ≤ off * i.size := Nat.mul_le_mul_right _ q
                      simp only
                      omega
                  · simp only [List.size_toArray, List.length_append, List.length_take, List.length_drop, Array.length_toList]
                    have : off * i.size + (tot - off) * i.size = tot * i.size := by rw [← Nat.add_mul]; congr 1; omega
                    omega
                  · intro k el hk
                    simp only [hget]
                    by_cases hkl : k < len
                    · rw [List.getElem?_append_left (by rw [hxn]; exact hkl), List.getElem?_take, if_pos hkl, List.getElem?_drop] at hk
                      obtain ⟨q1, q2⟩ := hels _ el hk
                      refine ⟨q1, fun j e hj => ?_⟩
                      have hjl : j < i.size := by rw [← q1]; exact (List.getElem?_eq_some_iff.1 hj).1
                      have : k * i.size + i.size ≤ len * i.size := by
                       rw [show k * i.size + i.size = (k + 1) * i.size by rw [Nat.add_mul]; omega]
                       exact Nat.mul_le_mul_right _ (by omega)
                      rw [if_pos (by omega)]
                      obtain ⟨v, p1, p2, p3⟩ := q2 j e hj
                      exact ⟨v, by rw [← p1]; congr 1; rw [Nat.add_mul]; omega, p2, p3⟩
                    · rw [List.getElem?_append_right (by rw [hxn]; omega), hxn] at hk
                      have hm : el ∈ ys := List.mem_of_getElem? hk
                      refine ⟨hyl el hm, fun j e hj => ?_⟩
                      have hjl : j < i.size := by rw [← hyl el hm]; exact (List.getElem?_eq_some_iff.1 hj).1
                      have hkk : k - len < ys.length := (List.getElem?_eq_some_iff.1 hk).1
                      have hf2 := flatten_get hyl (k - len) j hjl
                      rw [hk] at hf2
                      simp only [Option.bind_some, hj] at hf2
                      obtain ⟨v, hv', hr⟩ := (RVs_get.1 hyv).2 _ e hf2
                      have e3 : k * i.size = len * i.size + (k - len) * i.size := by rw [← Nat.add_mul]; congr 1; omega
                      have e4 : (k - len) * i.size + i.size ≤ ys.length * i.size := by
                       rw [show (k - len) * i.size + i.size = (k - len + 1) * i.size by rw [Nat.add_mul]; omega]
                       exact Nat.mul_le_mul_right _ (by omega)
                      refine ⟨v, ?_, hy1 v (List.mem_of_getElem? hv'), hr⟩
                      rw [if_neg (by omega), if_pos (by rw [hul]; omega), ← hv']
                      congr 1
                      omega
                · simp only [RV]
                  refine ⟨⟨h0, fun h => h.1 rfl⟩, _, cap, ⟨gn + 1, i.size, ag, ar'.frz - off, (ar'.els.drop off).take len ++ ys⟩, rfl, hroom, by simp [Hp.setArr, hidl], Nat.le_refl _, fun _ => ⟨rfl, by simp⟩, fun _ => ⟨b, _, rfl, fun _ => ⟨base + off * i.size, tot - off, by rw [Gh.at_same], by simp, by omega⟩⟩⟩
              · obtain ⟨w', cap', hrun, hchg, hlt, hcap, hfit⟩ := grow_comes (P := P) (ty := ty) hI hzs h0 hxv hx1 hxl hxn hyv hy1 hyl rfl hA hro (by omega) c5 (big _ c5) ag
                have hExt : Ext g os (g.at id (w.heap.size, 0, cap')) (os.set id (.cells ⟨gn + 1, i.size, ag, ar'.frz - off, (ar'.els.drop off).take len ++ ys⟩)) :=
                 Ext.set ho _ (by simp; omega) (fun q => by simp at q; omega)
                refine ⟨_, w', g.at id (w.heap.size, 0, cap'), hrun, hI.upd hchg hlt hI.base (.inr (Nat.le_refl _)) (hother _) (by simp [Hp.setArr, hidl]) hExt (fun o v hv => (hI.rd_new (Nat.le_refl _) hv).elim) (hfit (gn + 1) (ar'.frz - off)), hExt, ?_, kept_not hnp hc6.2 _ _⟩
                simp only [RV]
                exact ⟨⟨h0, fun h => h.1 rfl⟩, _, cap', ⟨gn + 1, i.size, ag, ar'.frz - off, (ar'.els.drop off).take len ++ ys⟩, rfl, hcap, by simp [Hp.setArr, hidl], Nat.le_refl _, fun _ => ⟨rfl, by simp⟩, fun _ => ⟨w.heap.size, 0, rfl, fun _ => ⟨0, cap', by rw [Gh.at_same], by simp, by omega⟩⟩⟩
            · cases h
      · cases h
    · cases h
   | _ => simp at h
theorem app_sound (hI : Inv B w0 g os w) {t t2 ty e e2 : TypeId} {i : TypeInfo} {z : Value} (ht : P.underlying t = some (.slice e)) (ht2 : P.underlying t2 = some (.slice e2)) (hi : P.info? e = some i) (hz : i.zero = some z) (hzs : z.cells.size = i.size) (h0 : 0 < i.size) (hby : 0 < i.bytes) {ag : Bool}
 {s x r : EV} {vs vx : Value} (hs : RV g os s vs) (hx : RV g os x vx) {lim : Nat} {h' : Hp} (h : appendTo i.size ag i.bytes s x ⟨os, lim⟩ = some (r, h')) :
 Comes lim B w0 g os h'.objs r ((Builtin.append_ #[t, t2] ty #[vs, vx]).run P w) ∧ h'.lim = lim := by
 rw [appendTo_eq] at h
 split at h
 · cases h
 · rename_i ys hys
   obtain ⟨xa, c, us, rfl, hrd, hyv, hy1, hyl⟩ := elsX_sound (P := P) hI hx hys
   exact app_core hI hi hzs h0 hby hs (adds_slice ht ht2 hi hz hrd) hyv hy1 hyl h
theorem appz_sound (hI : Inv B w0 g os w) {t t2 ty e : TypeId} {kd : IntKind} {i : TypeInfo} {z : Value} (ht : P.underlying t = some (.slice e)) (ht2 : P.underlying t2 = some (.int kd)) (hi : P.info? e = some i) (hz : i.zero = some z) (hzs : z.cells.size = i.size) (h0 : 0 < i.size) (hby : 0 < i.bytes) {ag : Bool}
 {zs : List EV} (hzv : RVs g os zs z.cells.toList) (h1 : ones zs = true) {s x r : EV} {vs vx : Value} (hs : RV g os s vs) (hx : RV g os x vx) {lim : Nat} {h' : Hp} (h : appendZ i.size ag i.bytes zs s x ⟨os, lim⟩ = some (r, h')) :
 Comes lim B w0 g os h'.objs r ((Builtin.append_ #[t, t2] ty #[vs, vx]).run P w) ∧ h'.lim = lim := by
 unfold appendZ at h
 split at h
 · rename_i k
   split at h
   · rename_i hk
     obtain rfl := hx.int
     have hkn : k = (k.toNat : Int) := by omega
     have hzl : zs.length = i.size := by rw [(RVs_get.1 hzv).1]; simpa using hzs
     have hm := RVs_made (n := k.toNat) (N := k.toNat * z.cells.size) hzv (by omega) (by rw [hzl, hzs]; exact Nat.le_refl _)
     have hmz : (madeCells z.cells (k.toNat * z.cells.size)).toList.take (k.toNat * zs.length) = (Builtin.zeroCells z.cells k.toNat).toList := by
      rw [List.take_of_length_le (by rw [Array.length_toList, size_madeCells, hzl, hzs]; exact Nat.le_refl _)]
      rfl
     rw [hmz] at hm
     have hA := adds_zero (w := w) (P := P) (ty := ty) ht ht2 hi hz hzs h0 hby k.toNat
     rw [← hkn] at hA
     refine app_core hI hi hzs h0 hby hs (by rw [List.length_replicate]; exact hA) hm (fun u hu => ?_) (fun el hel => by rw [List.eq_of_mem_replicate hel, hzl]) h
     obtain ⟨j, hj⟩ := List.mem_iff_getElem?.1 hu
     have hfl : ∀ el ∈ List.replicate k.toNat zs, el.length = zs.length := fun el hel => by rw [List.eq_of_mem_replicate hel]
     obtain ⟨el, he⟩ : ∃ el, (List.replicate k.toNat zs).flatten[j]? = some el := by
      have h3 := (RVs_get.1 hm).1
      have h4 := (List.getElem?_eq_some_iff.1 hj).1
      exact ⟨_, List.getElem?_eq_getElem (by omega)⟩
     obtain ⟨v, hv, hr⟩ := (RVs_get.1 hm).2 _ _ he
     rw [hj] at hv
     cases hv
     refine hr.one ?_
     have hmem := List.mem_of_getElem? he
     obtain ⟨l, hl1, hl2⟩ := List.mem_flatten.1 hmem
     rw [List.eq_of_mem_replicate hl1] at hl2
     exact List.all_eq_true.1 h1 _ hl2
   · cases h
 · cases h
end Dk
namespace Dk
open Go Go.RowKit
variable [Globs] [SiteRel] {P : Program} {B : Nat} {w0 w : World} {g : Gh} {os : List Obj}
theorem Chg.setObj (w : World) (b : Nat) (o : Go.Obj) : Chg w { w with heap := w.heap.setIfInBounds b o } b :=
 ⟨rfl, rfl, rfl, by simp, fun k _ hk => by simp [Array.getElem?_setIfInBounds_ne (Ne.symm hk)]⟩
theorem map_chg (hI : Inv B w0 g os w) {id b x y : Nat} {es es' : List (PD × EV)} {mes : Array MapEntry} {clock : Nat} (hp : g.ph id = some (b, x, y)) (ho : os[id]? = some (.map es)) (hh : w.heap[b]? = some (.map mes clock))
 {mes' : Array MapEntry} (lim clock' : Nat) (hm : ME g os es' mes'.toList) (h1 : ∀ m ∈ mes'.toList, m.born < clock') (h2 : (mes'.toList.map (·.born)).Nodup) :
 ∃ g', Inv B w0 g' (os.set id (.map es')) { w with heap := w.heap.setIfInBounds b (.map mes' clock') } ∧ Ext g os g' (os.set id (.map es')) ∧ Kept lim g os g' (os.set id (.map es')) := by
 have hb := (Array.getElem?_eq_some_iff.1 hh).1
 have hlt : id < os.length := (List.getElem?_eq_some_iff.1 ho).1
 have hE : Ext g os (g.at id (b, x, y)) (os.set id (.map es')) := Ext.setMap ho hp
 refine ⟨g.at id (b, x, y), hI.upd (ob := .map es') (Chg.setObj w b _) (by simpa using hb) (hI.high id b x y hp) (.inl ⟨x, y, hp⟩) (fun i hi => List.getElem?_set_ne (Ne.symm hi)) (by simp [hlt]) (hE) (fun o v hv => ?_) ⟨mes', clock', by simp [hb], ⟨by simpa using (ME_get.1 hm).1, h1, h2⟩, hm⟩, hE, kept_ph hI hp _ _⟩
 have := (hI.rdok b o v hv).1
 simp [World.cell?, hh] at this
omit [Globs] [SiteRel] in
theorem born_push {mes : Array MapEntry} {clock n : Nat} (h : MapOK mes clock n) {k v : Value} : (∀ m ∈ (mes.push { key := k, val := v, born := clock }).toList, m.born < clock + 1) ∧ ((mes.push { key := k, val := v, born := clock }).toList.map (·.born)).Nodup := by
 rw [Array.toList_push]
 refine ⟨fun m hm => ?_, ?_⟩
 · rcases List.mem_append.1 hm with q | q
   · exact Nat.lt_succ_of_lt (h.low m q)
   · simp at q; subst q; exact Nat.lt_succ_self _
 · rw [List.map_append, List.nodup_append]
   refine ⟨h.nodup, by simp, fun a ha b hb e => ?_⟩
   simp at hb
   subst hb e
   obtain ⟨m, hm, e⟩ := List.mem_map.1 ha
   have := h.low m hm
   omega
omit [Globs] [SiteRel] in
theorem born_set {mes : Array MapEntry} {clock n : Nat} (h : MapOK mes clock n) {j : Nat} {me m' : MapEntry} (hj : mes.toList[j]? = some me) (e : m'.born = me.born) : (∀ m ∈ mes.toList.set j m', m.born < clock) ∧ ((mes.toList.set j m').map (·.born)).Nodup := by
 have hm := List.mem_of_getElem? hj
 refine ⟨fun m hm' => ?_, ?_⟩
 · rcases List.mem_or_eq_of_mem_set hm' with q | q
   · exact h.low m q
   · subst q; rw [e]; exact h.low me hm
 · have : (mes.toList.set j m').map (·.born) = mes.toList.map (·.born) := by
    rw [List.map_set, e]
    apply List.ext_getElem?
    intro i
    rw [List.getElem?_set]
    split
    · rename_i q
      subst q
      rw [List.getElem?_map, hj]
      have : j < (mes.toList.map (·.born)).length := by
       rw [List.length_map]
       exact (List.getElem?_eq_some_iff.1 hj).1
      rw [if_pos this]
      rfl
    · rfl
   rw [this]
   exact h.nodup
theorem run_setObj_map {b : Nat} {mes : Array MapEntry} {clock : Nat} (h : w.heap[b]? = some (.map mes clock)) (o : Go.Obj) : (setObj b o).run P w = .ok () { w with heap := w.heap.setIfInBounds b o } := by
 simp [setObj, Sem.run, h]
theorem ME_append {es fs : List (PD × EV)} : ∀ {ms ns : List MapEntry}, ME g os es ms → ME g os fs ns → ME g os (es ++ fs) (ms ++ ns) := by
 induction es with
 | nil => intro ms ns h k; simp only [ME] at h; subst h; simpa using k
 | cons x r ih =>
  intro ms ns h k
  obtain ⟨kk, e⟩ := x
  simp only [ME] at h
  obtain ⟨m, ms', rfl, h1, h2, h⟩ := h
  simp only [List.cons_append, ME]
  exact ⟨m, ms' ++ ns, rfl, h1, h2, ih h k⟩
theorem ME_set : ∀ {es : List (PD × EV)} {ms : List MapEntry} (j : Nat) (k : PD) (e : EV) (m : MapEntry), ME g os es ms → RP g.rd k m.key → RV g os e m.val → ME g os (es.set j (k, e)) (ms.set j m)
 | [], ms, j, k, e, m, h, _, _ => by simp only [ME] at h; subst h; simp [ME]
 | (k0, e0) :: r, ms, j, k, e, m, h, h1, h2 => by
  simp only [ME] at h
  obtain ⟨m0, ms', rfl, p1, p2, h⟩ := h
  cases j with
  | zero => simp only [List.set_cons_zero, ME]; exact ⟨m, ms', rfl, h1, h2, h⟩
  | succ j => simp only [List.set_cons_succ, ME]; exact ⟨m0, _, rfl, p1, p2, ME_set j k e m h h1 h2⟩
theorem ME_erase : ∀ {es : List (PD × EV)} {ms : List MapEntry} (j : Nat), ME g os es ms → ME g os (es.eraseIdx j) (ms.eraseIdx j)
 | [], ms, j, h => by simp only [ME] at h; subst h; simp [ME]
 | (k0, e0) :: r, ms, j, h => by
  simp only [ME] at h
  obtain ⟨m0, ms', rfl, p1, p2, h⟩ := h
  cases j with
  | zero => simpa using h
  | succ j => simp only [List.eraseIdx_cons_succ, ME]; exact ⟨m0, _, rfl, p1, p2, ME_erase j h⟩
theorem sameBits_key {ck : CK} {k : PD} (ha : PD.alike ck k k = true) {u v : Value} (hu : RP g.rd k u) (hv : RP g.rd k v) (n : Nat) : Instr.sameBits n u v = true ∧ u = v := by
 cases ck <;> cases k <;> simp [PD.alike] at ha <;> simp only [RP] at hu hv <;> subst hu hv <;> simp [Instr.sameBits, ba_beq]
theorem mapSet_sound (hI : Inv B w0 g os w) {t kt et : TypeId} {ck : CK} (ht : P.underlying t = some (.map kt et)) (hk : KeyTy P kt ck)
 {m k v : EV} {vm vk vv : Value} (hm : RV g os m vm) (hkv : RV g os k vk) (hv : RV g os v vv) {lim : Nat} {h' : Hp} (h : mapSet ck m k v ⟨os, lim⟩ = some h') :
 ∃ w' g', (Instr.mapUpdate t vm vk vv).run P w = .ok () w' ∧ Inv B w0 g' h'.objs w' ∧ Ext g os g' h'.objs ∧ Kept lim g os g' h'.objs ∧ h'.lim = lim := by
 unfold mapSet at h
 split at h
 · rename_i k id
   split at h
   · rename_i ha
     have hkp := hkv.list_cases
     split at h
     · rename_i es he
       split at h
       · rename_i hall
         obtain ⟨hall, hlim⟩ := hall
         cases h
         obtain ⟨b, x, y, mes, clock, rfl, hp, ho, hh, hsz, hent⟩ := map_obj hI hm he
         have hME : ME g os es mes.toList := ME_get.2 ⟨by simpa using hsz.size, fun i k e hi => by simpa using hent i k e hi⟩
         rcases run_findKey (P := P) (w := w) hk hkp hME hall with ⟨a1, a2, a3, _⟩ | ⟨j, e, me, a1, a2, a3, a4, a5, _⟩
         · have hnew : ME g os (setKey k v es) (mes.push { key := vk, val := vv, born := clock }).toList := by
            rw [a3, Array.toList_push]
            exact ME_append hME (by simp only [ME]; exact ⟨_, [], rfl, hkp, hv, rfl⟩)
           obtain ⟨g', hI', hE, hK⟩ := map_chg hI hp ho hh lim (clock + 1) hnew (born_push hsz).1 (born_push hsz).2
           refine ⟨_, g', ?_, hI', hE, hK, rfl⟩
           simp only [Instr.mapUpdate, Sem.run_bind, run_underlying ht, Result.andThen_ok, run_getObj_map hh, run_checkKey hk ha hkp, a2, run_setObj_map hh]
         · have hj : mes[j]? = some me := by simpa using a4
           obtain ⟨me', hm', q1, q2⟩ := hent j k e a3
           rw [hj] at hm'; cases hm'
           obtain ⟨hb, hkk⟩ := sameBits_key ha q1 hkp 10000
           have hset : (mes.modify j fun e => { e with key := vk, val := vv }).toList = mes.toList.set j { me with key := vk, val := vv } := by
            rw [Array.toList_modify]
            apply List.ext_getElem?
            intro n
            rw [List.getElem?_modify, List.getElem?_set]
            by_cases hn : j = n
            · subst hn
              have hjl : j < mes.size := (Array.getElem?_eq_some_iff.1 hj).1
              simp [hjl, (Array.getElem?_eq_some_iff.1 hj).2]
            · simp [hn]
           have hnew : ME g os (setKey k v es) (mes.modify j fun e => { e with key := vk, val := vv }).toList := by
            rw [a5]
            have : (mes.modify j fun e => { e with key := vk, val := vv }).toList = mes.toList.set j { me with key := vk, val := vv } := by
             rw [Array.toList_modify]
             apply List.ext_getElem?
             intro n
             rw [List.getElem?_modify, List.getElem?_set]
             by_cases hn : j = n
             · subst hn
               have hjl : j < mes.size := (Array.getElem?_eq_some_iff.1 hj).1
               simp [hjl, (Array.getElem?_eq_some_iff.1 hj).2]
             · simp [hn]
            rw [this]
            exact ME_set j k v _ hME hkp hv
           obtain ⟨g', hI', hE, hK⟩ := map_chg hI hp ho hh lim clock hnew (hset ▸ (born_set (me := me) (m' := { me with key := vk, val := vv }) hsz (by simpa using hj) rfl).1) (hset ▸ (born_set (me := me) (m' := { me with key := vk, val := vv }) hsz (by simpa using hj) rfl).2)
           refine ⟨_, g', ?_, hI', hE, hK, rfl⟩
           simp only [Instr.mapUpdate, Sem.run_bind, run_underlying ht, Result.andThen_ok, run_getObj_map hh, run_checkKey hk ha hkp, a2, Instr.keyThatStays, hj, Option.map_some, Option.getD_some, hb, if_true, Sem.run_pure, run_setObj_map hh]
       · cases h
     · cases h
   · cases h
 · cases h
theorem mapDel_sound (hI : Inv B w0 g os w) {t kt et ty : TypeId} {ck : CK} (ht : P.underlying t = some (.map kt et)) (hk : KeyTy P kt ck) {ats : Array TypeId} (hats : ats[0]? = some t)
 {m k : EV} {vm vk : Value} (hm : RV g os m vm) (hkv : RV g os k vk) {lim : Nat} {h' : Hp} (h : mapDel ck m k ⟨os, lim⟩ = some h') :
 ∃ w' g', (Builtin.delete_ ats ty #[vm, vk]).run P w = .ok (.tuple #[]) w' ∧ Inv B w0 g' h'.objs w' ∧ Ext g os g' h'.objs ∧ Kept lim g os g' h'.objs ∧ h'.lim = lim := by
 unfold mapDel at h
 split at h
 · rename_i k id
   split at h
   · rename_i ha
     have hkp := hkv.list_cases
     split at h
     · rename_i es he
       split at h
       · rename_i hall
         obtain ⟨hall, hlim⟩ := hall
         cases h
         obtain ⟨b, x, y, mes, clock, rfl, hp, ho, hh, hsz, hent⟩ := map_obj hI hm he
         have hME : ME g os es mes.toList := ME_get.2 ⟨by simpa using hsz.size, fun i k e hi => by simpa using hent i k e hi⟩
         rcases run_findKey (P := P) (w := w) hk hkp hME hall with ⟨a1, a2, _, a4⟩ | ⟨j, e, me, a1, a2, a3, a4, _, a6⟩
         · obtain ⟨g', hI', hE, hK⟩ := map_chg hI hp ho hh lim clock (mes' := mes) (es' := delKey k es) (by rw [a4]; exact hME) hsz.low hsz.nodup
           refine ⟨_, g', ?_, hI', hE, hK, rfl⟩
           simp [Builtin.delete_, hats, run_underlying ht, run_getObj_map hh, run_checkKey hk ha hkp, a2, run_setObj_map hh]
         · have hj : mes[j]? = some me := by simpa using a4
           have hjl : j < mes.size := (Array.getElem?_eq_some_iff.1 hj).1
           obtain ⟨g', hI', hE, hK⟩ := map_chg hI hp ho hh lim clock (mes' := mes.eraseIdxIfInBounds j) (es' := delKey k es) (by
            rw [a6]
            have : (mes.eraseIdxIfInBounds j).toList = mes.toList.eraseIdx j := by simp [Array.eraseIdxIfInBounds, hjl]
            rw [this]
            exact ME_erase j hME) (by
             have : (mes.eraseIdxIfInBounds j).toList = mes.toList.eraseIdx j := by simp [Array.eraseIdxIfInBounds, hjl]
             rw [this]
             exact fun m hm => hsz.low m (List.mem_of_mem_eraseIdx hm)) (by
             have : (mes.eraseIdxIfInBounds j).toList = mes.toList.eraseIdx j := by simp [Array.eraseIdxIfInBounds, hjl]
             rw [this]
             exact hsz.nodup.sublist ((List.eraseIdx_sublist _ _).map _))
           refine ⟨_, g', ?_, hI', hE, hK, rfl⟩
           simp [Builtin.delete_, hats, run_underlying ht, run_getObj_map hh, run_checkKey hk ha hkp, a2, run_setObj_map hh]
       · cases h
     · cases h
   · cases h
 · rename_i k
   split at h
   · rename_i ha
     have hkp := hkv.list_cases
     cases h
     simp only [RV] at hm
     subst hm
     refine ⟨w, g, ?_, hI, Ext.refl g os, Kept.refl lim g os, rfl⟩
     simp [Builtin.delete_, hats, run_underlying ht, run_checkKey hk ha hkp]
   · cases h
 · cases h
end Dk
