/- D, second part: from the model's operations and codes to those of D, each shown right. No condition. -/
import Derived.Test.YtalodgghnpnnkaaDoorQk1
import Derived.Laws.Append
import Derived.Laws.Entries
import Derived.Laws.NewFold
import Derived.Laws.BytesString
import Derived.DefersIn
import Derived.RangeFuncRecord
import Derived.RangeFuncIn
import Derived.RangeFuncCalls
import Derived.RangeFuncOwn
import Derived.Scope
set_option linter.unusedVariables false
set_option linter.unusedSimpArgs false
set_option linter.unusedSectionVars false
namespace Dk
open Go Go.RowKit
variable [Globs]
def mapO {α β : Type} (f : α → Option β) : List α → Option (List β)
 | [] => some []
 | a :: r => match f a with
  | some b => match mapO f r with
   | some bs => some (b :: bs)
   | none => none
  | none => none
theorem mapO_cons {α β : Type} {f : α → Option β} {a : α} {r : List α} {bs : List β} (h : mapO f (a :: r) = some bs) : ∃ b bs', f a = some b ∧ mapO f r = some bs' ∧ bs = b :: bs' := by
 simp only [mapO] at h
 split at h
 · split at h
   · cases h; exact ⟨_, _, ‹_›, ‹_›, rfl⟩
   · cases h
 · cases h
def ofScalar : Value → Option EV
 | .int k n => some (.p (.int k n))
 | .bool b => some (.p (.bool b))
 | .string s => some (.p (.str s))
 | .slice none 0 0 => some (.full [])
 | .pointer none => some .nilp
 | .map none => some .nilmap
 | .nilFunc => some .nilf
 | .nilIface => some .nili
 | _ => none
def ofVal : Value → Option EV
 | .agg cs => (mapO ofScalar cs.toList).map .agg
 | v => ofScalar v
def opX : Operand → Option X
 | .tmp t => some (.t t)
 | .const v => (ofVal v).map .v
 | .func f => some (.v (.fn (.func f) [] []))
 | .global n => (Globs.tab n).map fun cs => .v (.cp cs 0)
def opXo : Option Operand → Option (Option X)
 | none => some none
 | some x => (opX x).map some
def aggD : TypeDesc → Bool
 | .struct _ | .array _ _ => true
 | _ => false
def tyI (P : Program) (t : TypeId) : Option (Bool × Nat) :=
 match P.info? t, P.underlying t with
 | some i, some d => some (aggD d, i.size)
 | _, _ => none
def zeroOf (P : Program) (t : TypeId) : Option Value := (P.info? t).bind (·.zero)
def zerosT (P : Program) (t : TypeId) : Option (List EV) :=
 match zeroOf P t with
 | some z => mapO ofScalar z.cells.toList
 | none => none
def zeroT (P : Program) (t : TypeId) : Option EV :=
 match zeroOf P t with
 | some z => ofVal z
 | none => none
def ekOf (P : Program) (t : TypeId) : EK :=
 match P.underlying t with
 | some .bool => .bool
 | some (.pointer _) => .ptr
 | some (.func ..) => .fn
 | some (.map ..) => .map
 | some (.struct _) | some (.array ..) => match eqFlat P 100 t with
  | some ks => match tyI P t with
   | some (ag, n) => if ag = true ∧ n = ks.length ∧ P.eqGuardType P.depth t = false then .cells ks else .none
   | none => .none
  | none => .none
 | _ => .none
def ckOf (P : Program) (t : TypeId) : Option CK :=
 match P.underlying t with
 | some (.int _) => some .int
 | some .bool => some .bool
 | some .string => some .str
 | _ => none
def elemOf (P : Program) (t : TypeId) : Option TypeId :=
 match P.underlying t with
 | some (.slice e) => some e
 | _ => none
def partX (pl : Nat → Option (Nat × Nat)) : Nat × Operand → Option (Nat × Nat × X)
 | (i, x) => match pl i with
  | some (o, n) => (opX x).map fun x => (o, n, x)
  | none => none
def rowX : Nat × Operand → Option (Nat × X)
 | (i, x) => (opX x).map fun x => (i, x)
def fieldOf (P : Program) (s : TypeId) (k : Nat) : Option Field :=
 match P.underlying s with
 | some (.struct fs) => fs[k]?
 | _ => none
def placesOf (P : Program) (t : TypeId) : Option (Nat → Option (Nat × Nat)) :=
 match P.underlying t with
 | some (.struct fields) => match fields.toList.mapM (fun f => (P.info? f.type).map fun i => (f.offset, i.size)) with
  | some places => some (places.toArray[·]?)
  | none => none
 | some (.array _ e) => match P.info? e with
  | some ie => some fun i => some (i * ie.size, ie.size)
  | none => none
 | _ => none
def compBuiltin (P : Program) (b : Builtin) (ats : List TypeId) (args : List X) : Option DOp :=
 match b, ats, args with
 | .append, [t, t2], [s, x] => match elemOf P t, elemOf P t2 with
  | some e, some _ => match P.info? e, tyI P e with
   | some i, some (ag, n) => match i.zero with
    | some z => if z.cells.size = n ∧ 0 < n ∧ 0 < i.bytes then some (.app n ag i.bytes s x) else none
    | none => none
   | _, _ => none
  | some e, none => match P.underlying t2 with
   | some (.int _) => match P.info? e, tyI P e, zerosT P e with
    | some i, some (ag, n), some zs => match i.zero with
     | some z => if z.cells.size = n ∧ 0 < n ∧ 0 < i.bytes then some (.appz n ag i.bytes zs s x) else none
     | none => none
    | _, _, _ => none
   | _ => none
  | _, _ => none
 | .len, [t], [x] => match P.underlying t with
  | some (.slice _) => some (.len 0 x)
  | some .string => some (.len 1 x)
  | some (.map _ _) => some (.len 2 x)
  | _ => none
 | .cap, [t], [x] => match elemOf P t with
  | some _ => some (.cap x)
  | none => none
 | .delete, [t, _], [m, k] => match P.underlying t with
  | some (.map kt _) => match ckOf P kt with
   | some ck => some (.del ck m k)
   | none => none
  | _ => none
 | .max, _, [x, y] => some (.mnx true x y)
 | .min, _, [x, y] => some (.mnx false x y)
 | _, _, _ => none
def isNilSlice : Operand → Bool
 | .const (.slice none 0 0) => true
 | _ => false
def compAssign (P : Program) (t : TypeId) (x : Operand) : Option DOp :=
 if isNilSlice x = true then match elemOf P t with
  | some e => match tyI P e with
   | some (ag, n) => if 0 < n then some (.nils n ag) else none
   | none => none
  | none => none
 else (opX x).map .mv
def nilCmp (P : Program) (op : BinOp) (t : TypeId) (y : Operand) : Option Bool :=
 if isNilSlice y = true then match elemOf P t with
  | some _ => match op with
   | .eql => some false
   | .neq => some true
   | _ => none
  | none => none
 else none
def extOp (P : Program) (f : Nat) (args : List X) : Option DOp :=
 match P.funcs[f]? with
 | some fn => if fn.body.isNone = true then
  if fn.name = "internal/bytealg.IndexByteString" ∧ fn.origin = "" then match args with
   | [a, b] => some (.fnb a b)
   | _ => none
  else if fn.name = "internal/bytealg.IndexString" ∧ fn.origin = "" then match args, P.globals.findIdx? (·.name == "internal/bytealg.MaxLen") with
   | [a, b], some g => match Globs.tab g with
    | some [.int .i64 m] => some (.fnd m a b)
    | _ => none
   | _, _ => none
  else none
  else none
 | none => none
def isBldZero (P : Program) (t : TypeId) : Bool := match P.info? t with
 | some i => match i.zero with
  | some (.agg cs) => match cs.toList with
   | [.pointer none, .slice none 0 0] => true
   | _ => false
  | _ => false
 | none => false
def compOp (P : Program) (o : Oper) : Option DOp :=
 match o.op with
 | .move x => (opX x).map .mv
 | .assign x => compAssign P o.type x
 | .pick c a b => match opX c, opX a, opX b with
  | some c, some a, some b => some (.pick c a b)
  | _, _, _ => none
 | .alloc t => if Nat.beq t Globs.bld = true then (if isBldZero P t = true then some .nbld else none) else match tyI P t, zerosT P t with
  | some (ag, n), some zs => if zs.length = n ∧ 0 < n then some (.new ag zs) else none
  | _, _ => none
 | .box t x => match tyI P t, opX x with
  | some (ag, n), some x => if 0 < n then some (.box ag n x) else none
  | _, _ => none
 | .build t parts => match zerosT P t, placesOf P t with
  | some zs, some pl => (mapO (partX pl) parts.toList).map (.build zs)
  | _, _ => none
 | .buildSlice t len parts => match elemOf P t with
  | some e => match tyI P e, zerosT P e with
   | some (ag, n), some zs => if zs.length = n ∧ 0 < n ∧ len * n ≤ 16777216 then (mapO rowX parts.toList).map (.lit n ag (List.replicate len zs)) else none
   | _, _ => none
  | none => none
 | .load t a => match tyI P t, opX a with
  | some (ag, n), some a => some (.ld ag n a)
  | _, _ => none
 | .store t a x => match tyI P t, opX a, opX x with
  | some (_, n), some a, some x => some (.st n a x)
  | _, _, _ => none
 | .nilCheck x => (opX x).map .nz
 | .binOp op t x y _ => match nilCmp P op t y with
  | some ne => (opX x).map (.isnil ne)
  | none => match opX x, opX y with
   | some x, some y => some (.bin op (ekOf P t) x y)
   | _, _ => none
 | .unOp op _ x => (opX x).map (.un op)
 | .convert s d x => match P.underlying s, P.underlying d with
  | some (.int _), some (.int k) => (opX x).map (.conv k)
  | some .string, some (.slice e) => match P.underlying e with
   | some (.int .u8) => (opX x).map .byts
   | _ => none
  | some (.slice e), some .string => match P.underlying e with
   | some (.int .u8) => (opX x).map .strb
   | _ => none
  | _, _ => none
 | .makeInterface t x => match P.underlying t with
  | some (.interface _) => none
  | some _ => (opX x).map (.mki t)
  | none => none
 | .typeAssert x _ t ok => if ok = true then match P.underlying t with
  | some (.interface _) => none
  | some _ => match zeroT P t, opX x with
   | some z, some x => some (.asr t z x)
   | _, _ => none
  | none => none
  else none
 | .makeFunc f a b => match mapO opX a.toList, mapO opX b.toList with
  | some a, some b => some (.mkf f a b)
  | _, _ => none
 | .makeMap _ r => match r with
  | none => some .mkmap
  | some _ => none
 | .makeSlice t l c => match elemOf P t with
  | some e => match P.info? e, tyI P e, zerosT P e with
   | some i, some (ag, n), some zs => match opX l, opX c with
    | some l, some c => if zs.length = n ∧ 0 < n then some (.mks n ag i.bytes zs l c) else none
    | _, _ => none
   | _, _, _ => none
  | none => none
 | .slice t x lo hi mx => match opX x, opXo lo, opXo hi, opXo mx with
  | some x, some lo, some hi, some mx => match P.underlying t with
   | some (.slice e) => match P.info? e with
    | some i => some (.slc i.size x lo hi mx)
    | none => none
   | some .string => match mx with
    | none => some (.sls x lo hi)
    | some _ => none
   | some (.array n e) => match P.info? e with
    | some i => match mx with
     | none => if 0 < i.size then some (.sla n i.size x lo hi) else none
     | some _ => none
    | none => none
   | _ => none
  | _, _, _, _ => none
 | .fieldAddr s x k => match fieldOf P s k, opX x with
  | some f, some x => match P.info? f.type with
   | some i => if i.size ≠ 0 then some (.fld f.offset x) else none
   | none => none
  | _, _ => none
 | .field s x k => match fieldOf P s k, opX x with
  | some f, some x => match tyI P f.type with
   | some (ag, n) => some (.fget f.offset n ag x)
   | none => none
  | _, _ => none
 | .indexAddr t x i => match opX x, opX i with
  | some x, some i => match P.underlying t with
   | some (.slice e) => match P.info? e with
    | some ie => some (.ixa ie.size x i)
    | none => none
   | some (.array len e) => match P.info? e with
    | some ie => some (.ixp len ie.size x i)
    | none => none
   | _ => none
  | _, _ => none
 | .index t x i => match opX x, opX i with
  | some x, some i => match P.underlying t with
   | some .string => some (.ixs x i)
   | some (.array len e) => match tyI P e with
    | some (ag, n) => some (.ixg len n ag x i)
    | none => none
   | _ => none
  | _, _ => none
 | .lookup t m k ok => match P.underlying t with
  | some (.map kt et) => match ckOf P kt, zeroT P et, opX m, opX k with
   | some ck, some z, some m, some k => some (.look ck z ok m k)
   | _, _, _, _ => none
  | _ => none
 | .mapUpdate t m k x => match P.underlying t with
  | some (.map kt _) => match ckOf P kt, opX m, opX k, opX x with
   | some ck, some m, some k, some x => some (.upd ck m k x)
   | _, _, _, _ => none
  | _ => none
 | .insert t m k x => match P.underlying t with
  | some (.map kt _) => match ckOf P kt, opX m, opX k, opX x with
   | some ck, some m, some k, some x => some (.upd ck m k x)
   | _, _, _, _ => none
  | _ => none
 | .extract x i => (opX x).map fun x => .ext x i
 | .call c => match mapO opX c.args.toList with
  | some args => match c.callee with
   | .builtin b => compBuiltin P b c.argTypes.toList args
   | .value (.func f) => match extOp P f args with
    | some d => some d
    | none => some (.call f args)
   | .value x => match opX x with
    | some x => some (.callv x args)
    | none => none
   | .invoke .. => none
  | none => none
 | _ => none
end Dk
namespace Dk
open Go Go.RowKit
variable [Globs] [SiteRel] {P : Program} {B : Nat} {w0 w : World} {g : Gh} {os : List Obj}
theorem ofScalar_ok {v : Value} {e : EV} (h : ofScalar v = some e) (g : Gh) (os : List Obj) : RV g os e v ∧ e.one = true := by
 unfold ofScalar at h
 split at h <;> (first | cases h) <;> simp [RV, RP, EV.one, RPl]
theorem mapO_scalar : ∀ {vs : List Value} {es : List EV}, mapO ofScalar vs = some es → ∀ (g : Gh) (os : List Obj), RVs g os es vs ∧ ones es = true
 | [], es, h, g, os => by simp [mapO] at h; subst h; simp [RVs, ones]
 | v :: r, es, h, g, os => by
  obtain ⟨b, bs, h1, h2, rfl⟩ := mapO_cons h
  obtain ⟨p, q⟩ := mapO_scalar h2 g os
  obtain ⟨p', q'⟩ := ofScalar_ok h1 g os
  refine ⟨by simp only [RVs]; exact ⟨v, r, rfl, p', p⟩, ?_⟩
  simp only [ones, List.all_cons, Bool.and_eq_true] at q ⊢
  exact ⟨q', q⟩
theorem ofVal_ok {v : Value} {e : EV} (h : ofVal v = some e) (g : Gh) (os : List Obj) : RV g os e v := by
 unfold ofVal at h
 split at h
 · rename_i cs
   cases hm : mapO ofScalar cs.toList with
   | none => simp [hm] at h
   | some es =>
    simp [hm] at h
    subst h
    simp only [RV]
    exact ⟨cs, rfl, (mapO_scalar hm g os).1⟩
 · exact (ofScalar_ok h g os).1
def Ans (g : Gh) (os : List Obj) (fr : Fr) (ρ : Operand → Value) (x : Operand) : Prop := ∀ X, opX x = some X → RV g os (X.ev fr) (ρ x)
theorem tyI_ok {t : TypeId} {ag : Bool} {n : Nat} (h : tyI P t = some (ag, n)) : TyIs P t ag n := by
 unfold tyI at h
 split at h
 · rename_i i d hi hd
   simp at h
   obtain ⟨rfl, rfl⟩ := h
   refine ⟨⟨i, hi, rfl⟩, d, hd, ?_⟩
   cases d <;> rfl
 · cases h
theorem tyI_size {t : TypeId} {ag : Bool} {n : Nat} (h : tyI P t = some (ag, n)) : ∃ i, P.info? t = some i ∧ i.size = n := (tyI_ok h).1
theorem elemOf_ok {t e : TypeId} (h : elemOf P t = some e) : P.underlying t = some (.slice e) := by
 unfold elemOf at h
 split at h
 · cases h; assumption
 · cases h
theorem fieldOf_ok {s : TypeId} {k : Nat} {f : Field} (h : fieldOf P s k = some f) : ∃ fs, P.underlying s = some (.struct fs) ∧ fs[k]? = some f := by
 unfold fieldOf at h
 split at h
 · exact ⟨_, ‹_›, h⟩
 · cases h
theorem ekOf_ok (P : Program) (t : TypeId) : EqTy P t (ekOf P t) := by
 unfold ekOf
 split
 · assumption
 · exact ⟨_, ‹_›⟩
 · exact ⟨_, _, _, ‹_›⟩
 · exact ⟨_, _, ‹_›⟩
 all_goals first
  | (split
     · rename_i ks hk
       split
       · rename_i ag n ht
         split
         · rename_i hc
           obtain ⟨rfl, rfl, hg⟩ := hc
           exact ⟨hk, tyI_ok ht, hg⟩
         · trivial
       · trivial
     · trivial)
  | trivial
theorem ckOf_ok {t : TypeId} {ck : CK} (h : ckOf P t = some ck) : KeyTy P t ck := by
 unfold ckOf at h
 split at h
 · cases h; exact ⟨_, ‹_›⟩
 · cases h; assumption
 · cases h; assumption
 · cases h
theorem zerosT_ok {t : TypeId} {zs : List EV} (h : zerosT P t = some zs) : ∃ i z, P.info? t = some i ∧ i.zero = some z ∧ (∀ (g : Gh) (os : List Obj), RVs g os zs z.cells.toList) ∧ ones zs = true ∧ z.cells.size = zs.length := by
 unfold zerosT zeroOf at h
 cases hi : P.info? t with
 | none => simp [hi] at h
 | some i =>
  cases hz : i.zero with
  | none => simp [hi, hz] at h
  | some z =>
   simp [hi, hz] at h
   refine ⟨i, z, rfl, hz, fun g os => (mapO_scalar h g os).1, (mapO_scalar h ⟨fun _ _ => none, fun _ => none, fun _ => False, fun _ => False, fun _ => none⟩ []).2, ?_⟩
   have := (RVs_get.1 (mapO_scalar h ⟨fun _ _ => none, fun _ => none, fun _ => False, fun _ => False, fun _ => none⟩ []).1).1
   simpa using this.symm
theorem zeroT_ok {t : TypeId} {z : EV} (h : zeroT P t = some z) : ∃ i zv, P.info? t = some i ∧ i.zero = some zv ∧ ∀ (g : Gh) (os : List Obj), RV g os z zv := by
 unfold zeroT zeroOf at h
 cases hi : P.info? t with
 | none => simp [hi] at h
 | some i =>
  cases hz : i.zero with
  | none => simp [hi, hz] at h
  | some zv =>
   simp [hi, hz] at h
   exact ⟨i, zv, rfl, hz, fun g os => ofVal_ok h g os⟩
theorem args_ok {fr : Fr} {ρ : Operand → Value} : ∀ {l : List Operand} {xs : List X}, (∀ x ∈ l, Ans g os fr ρ x) → mapO opX l = some xs → RVs g os (evs fr xs) (l.map ρ)
 | [], xs, _, h => by simp [mapO] at h; subst h; simp [evs, RVs]
 | x :: r, xs, H, h => by
  obtain ⟨b, bs, h1, h2, rfl⟩ := mapO_cons h
  simp only [evs, List.map_cons, RVs]
  exact ⟨ρ x, r.map ρ, rfl, H x (by simp) b h1, args_ok (fun y hy => H y (by simp [hy])) h2⟩
theorem parts_ok {fr : Fr} {ρ : Operand → Value} {pl : Nat → Option (Nat × Nat)} : ∀ {l : List (Nat × Operand)} {xs : List (Nat × Nat × X)}, (∀ x ∈ l, Ans g os fr ρ x.2) → mapO (partX pl) l = some xs →
 PartsAre pl g os (l.map fun (i, x) => (i, ρ x)) (xs.map fun (o, n, x) => (o, n, x.ev fr))
 | [], xs, _, h => by simp [mapO] at h; subst h; simp [PartsAre]
 | (i, x) :: r, xs, H, h => by
  obtain ⟨b, bs, h1, h2, rfl⟩ := mapO_cons h
  simp only [partX] at h1
  split at h1
  · rename_i o n hp
    cases hx : opX x with
    | none => simp [hx] at h1
    | some X =>
     simp [hx] at h1
     subst h1
     simp only [List.map_cons, PartsAre]
     exact ⟨o, n, _, _, rfl, hp, H (i, x) (by simp) X hx, parts_ok (fun y hy => H y (by simp [hy])) h2⟩
  · cases h1
theorem rows_ok {fr : Fr} {ρ : Operand → Value} : ∀ {l : List (Nat × Operand)} {xs : List (Nat × X)}, (∀ x ∈ l, Ans g os fr ρ x.2) → mapO rowX l = some xs →
 RowsAre g os (l.map fun (i, x) => (i, ρ x)) (xs.map fun (i, x) => (i, x.ev fr))
 | [], xs, _, h => by simp [mapO] at h; subst h; simp [RowsAre]
 | (i, x) :: r, xs, H, h => by
  obtain ⟨b, bs, h1, h2, rfl⟩ := mapO_cons h
  simp only [rowX] at h1
  cases hx : opX x with
  | none => simp [hx] at h1
  | some X =>
   simp [hx] at h1
   subst h1
   simp only [List.map_cons, RowsAre]
   exact ⟨_, _, rfl, H (i, x) (by simp) X hx, rows_ok (fun y hy => H y (by simp [hy])) h2⟩
theorem places_ok {t : TypeId} {pl : Nat → Option (Nat × Nat)} (h : placesOf P t = some pl) :
 (∃ fields places, P.underlying t = some (.struct fields) ∧ fields.toList.mapM (fun f => (P.info? f.type).map fun i => (f.offset, i.size)) = some places ∧ pl = (places.toArray[·]?)) ∨
  (∃ n e ie, P.underlying t = some (.array n e) ∧ P.info? e = some ie ∧ pl = fun i => some (i * ie.size, ie.size)) := by
 unfold placesOf at h
 split at h
 · split at h
   · cases h; exact .inl ⟨_, _, ‹_›, ‹_›, rfl⟩
   · cases h
 · split at h
   · cases h; exact .inr ⟨_, _, _, ‹_›, ‹_›, rfl⟩
   · cases h
 · cases h
theorem opt_ok {fr : Fr} {ρ : Operand → Value} {x : Option Operand} {Y : Option X} (H : ∀ y, x = some y → Ans g os fr ρ y) (h : opXo x = some Y) : RO g os (Y.map (X.ev fr)) (x.map ρ) := by
 cases x with
 | none => simp [opXo] at h; subst h; simp [RO]
 | some y =>
  simp only [opXo] at h
  cases hx : opX y with
  | none => simp [hx] at h
  | some Z =>
   simp [hx] at h
   subst h
   simp only [Option.map_some, RO]
   exact ⟨ρ y, rfl, H y rfl Z hx⟩
def Gives (P : Program) (w : World) (g : Gh) (os : List Obj) (ρ : Operand → Value) (o : Oper) (r : EV) : Prop :=
 ∃ v, (execOp ρ o).run P w = .ok (.value v) w ∧ RV g os r v
theorem gives_of {ρ : Operand → Value} {o : Oper} {r : EV} {s : Sem Value} (he : execOp ρ o = (do pure (.value (← s)) : Sem Next)) (h : ∃ v, s.run P w = .ok v w ∧ RV g os r v) : Gives P w g os ρ o r := by
 obtain ⟨v, h1, h2⟩ := h
 exact ⟨v, by rw [he]; simp [h1], h2⟩
end Dk
namespace Dk
open Go Go.RowKit
variable [Globs] [SiteRel] {P : Program} {B : Nat} {w0 w : World} {g : Gh} {os : List Obj}
theorem RV.fnc {f : FuncId} {v : Value} (h : RV g os (.fn (.func f) [] []) v) : v = .func (.func f) #[] #[] := by
 simp only [RV, RVs] at h
 obtain ⟨fa, fb, rfl, h1, h2⟩ := h
 rw [Array.toList_eq_nil_iff] at h1 h2
 rw [h1, h2]
theorem mapO_len {α β : Type} {f : α → Option β} : ∀ {l : List α} {bs : List β}, mapO f l = some bs → bs.length = l.length
 | [], bs, h => by simp [mapO] at h; subst h; rfl
 | a :: r, bs, h => by obtain ⟨b, bs', h1, h2, rfl⟩ := mapO_cons h; simp [mapO_len h2]
theorem call_builtin {ρ : Operand → Value} {o : Oper} {c : Call} {b : Builtin} (ho : o.op = .call c) (hb : c.callee = .builtin b) :
 ∃ cs, execOp ρ o = builtin b c.argTypes o.type cs (c.args.map ρ) := by
 simp only [execOp, ho, resolve, hb]
 exact ⟨_, rfl⟩
theorem arr_eq {α : Type} {a : Array α} {l : List α} (h : a.toList = l) : a = l.toArray := by subst h; simp
theorem run_max2 {k j : IntKind} {a b : Int} {t : TypeId} {ats : Array TypeId} : (Builtin.max_ ats t #[.int k a, .int j b]).run P w = .ok (.int k (if b > a then b else a)) w := by
 simp [Builtin.max_, Builtin.max2]
theorem run_min2 {k j : IntKind} {a b : Int} {t : TypeId} {ats : Array TypeId} : (Builtin.min_ ats t #[.int k a, .int j b]).run P w = .ok (.int k (if b < a then b else a)) w := by
 simp [Builtin.min_, Builtin.min2]
set_option maxHeartbeats 1000000 in
theorem builtin_ok (hI : Inv B w0 g os w) {fr : Fr} {ρ : Operand → Value} {o : Oper} {c : Call} {b : Builtin} {d : DOp} {args : List X} (H : ∀ x ∈ c.args.toList, Ans g os fr ρ x) (hargs : mapO opX c.args.toList = some args)
 (hb : c.callee = .builtin b) (hc : compBuiltin P b c.argTypes.toList args = some d) {lim : Nat} {r : EV} (h : look d fr ⟨os, lim⟩ = some r) (ho : o.op = .call c) : Gives P w g os ρ o r := by
 have hv := args_ok H hargs
 have hl := mapO_len hargs
 unfold Gives
 obtain ⟨cs, hex⟩ := call_builtin (ρ := ρ) ho hb
 rw [hex]
 unfold compBuiltin at hc
 split at hc
 · (repeat' split at hc) <;> first | (cases hc; done) | (cases hc; simp [look] at h; done)
 · rename_i t x hat
   have hat' : c.argTypes = #[t] := arr_eq hat
   simp only [evs, List.map_cons, List.map_nil, RVs] at hv
   obtain ⟨v, ws, hm, hx, rfl⟩ := hv
   have hm' : c.args.map ρ = #[v] := arr_eq (by rw [Array.toList_map, hm])
   have fin : ∀ kd, LenTy P t kd → look (.len kd x) fr ⟨os, lim⟩ = some r → ∃ u, (builtin .len c.argTypes o.type cs (c.args.map ρ)).run P w = .ok (.value u) w ∧ RV g os r u := by
    intro kd ht h
    simp only [look] at h
    cases hn : lenOf kd (x.ev fr) ⟨os, lim⟩ with
    | none => simp [hn] at h
    | some n =>
     simp [hn] at h
     subst h
     have := len_sound (P := P) (ty := o.type) hI ht hx hn
     refine ⟨.int .i64 n, ?_, by simp [RV, RP]⟩
     rw [hat', hm']
     simp only [builtin, Sem.run_bind, this, Result.andThen_ok, Sem.run_pure]
   split at hc
   · cases hc; exact fin 0 ⟨_, ‹_›⟩ h
   · cases hc; exact fin 1 ‹_› h
   · cases hc; exact fin 2 ⟨_, _, ‹_›⟩ h
   · cases hc
 · rename_i t x hat
   have hat' : c.argTypes = #[t] := arr_eq hat
   simp only [evs, List.map_cons, List.map_nil, RVs] at hv
   obtain ⟨v, ws, hm, hx, rfl⟩ := hv
   have hm' : c.args.map ρ = #[v] := arr_eq (by rw [Array.toList_map, hm])
   split at hc
   · rename_i e he
     cases hc
     simp only [look] at h
     split at h
     · rename_i xs hxs
       cases h
       rw [hxs] at hx
       have := cap_sound (P := P) (w := w) (ty := o.type) (elemOf_ok he) hx
       refine ⟨.int .i64 xs.length, ?_, by simp [RV, RP]⟩
       rw [hat', hm']
       simp only [builtin, Sem.run_bind, this, Result.andThen_ok, Sem.run_pure]
     · cases h
   · cases hc
 · split at hc
   · split at hc
     · cases hc; simp [look] at h
     · cases hc
   · cases hc
 · rename_i x y hat
   cases hc
   simp only [evs, List.map_cons, List.map_nil, RVs] at hv
   obtain ⟨v, ws, hm, hx, v', ws', rfl, hy, rfl⟩ := hv
   have hm' : c.args.map ρ = #[v, v'] := arr_eq (by rw [Array.toList_map, hm])
   simp only [look] at h
   split at h
   · rename_i k a j b he1 he2
     cases h
     rw [he1] at hx
     rw [he2] at hy
     refine ⟨.int k (if b > a then b else a), ?_, by simp [RV, RP]⟩
     rw [hm', hx.int, hy.int]
     simp only [builtin, Sem.run_bind, run_max2, Result.andThen_ok, Sem.run_pure]
   · cases h
 · rename_i x y hat
   cases hc
   simp only [evs, List.map_cons, List.map_nil, RVs] at hv
   obtain ⟨v, ws, hm, hx, v', ws', rfl, hy, rfl⟩ := hv
   have hm' : c.args.map ρ = #[v, v'] := arr_eq (by rw [Array.toList_map, hm])
   simp only [look] at h
   split at h
   · rename_i k a j b he1 he2
     cases h
     rw [he1] at hx
     rw [he2] at hy
     refine ⟨.int k (if b < a then b else a), ?_, by simp [RV, RP]⟩
     rw [hm', hx.int, hy.int]
     simp only [builtin, Sem.run_bind, run_min2, Result.andThen_ok, Sem.run_pure]
   · cases h
 · cases hc
theorem ext_ok (hI : Inv B w0 g os w) {fr : Fr} {ρ : Operand → Value} {o : Oper} {c : Call} {f : FuncId} {d : DOp} {args : List X} (H : ∀ x ∈ c.args.toList, Ans g os fr ρ x) (hargs : mapO opX c.args.toList = some args)
 (hf : c.callee = .value (.func f)) (hc : extOp P f args = some d) {lim : Nat} {r : EV} (h : look d fr ⟨os, lim⟩ = some r) (ho : o.op = .call c) (hρ : ρ (.func f) = .func (.func f) #[] #[]) : Gives P w g os ρ o r := by
 have hv := args_ok H hargs
 unfold Gives
 have hex : (execOp ρ o).run P w = (callFunc f (c.args.map ρ)).run P w := by
  simp [execOp, ho, resolve, hf, hρ, Deferred.ofValue, invoke]
 rw [hex]
 unfold extOp at hc
 split at hc
 · rename_i fn hfn
   split at hc
   · rename_i hb
     split at hc
     · rename_i hname
       split at hc
       · rename_i x y
         cases hc
         simp only [evs, List.map_cons, List.map_nil, RVs] at hv
         obtain ⟨v, ws, hm, hx, v', ws', rfl, hy, rfl⟩ := hv
         have hm' : c.args.map ρ = #[v, v'] := arr_eq (by rw [Array.toList_map, hm])
         simp only [look] at h
         split at h
         · rename_i s n hx1 hy1
           cases h
           rw [hx1] at hx
           rw [hy1] at hy
           refine ⟨.int .i64 (idxB n.toNat.toUInt8 s.data.toList 0), ?_, by simp [RV, RP]⟩
           rw [run_callFunc_extern hfn (by rw [hname.1]; rfl) hb (next_indexByte hname.1 hname.2) (find_indexByte hname.1), hm', hx.str, hy.int, Lib.run_indexByteString, idxB_zero]
           rfl
         · cases h
       · cases hc
     · split at hc
       · rename_i hname
         split at hc
         · rename_i x y gn hgn
           split at hc
           · rename_i m htab
             cases hc
             simp only [evs, List.map_cons, List.map_nil, RVs] at hv
             obtain ⟨v, ws, hm, hx, v', ws', rfl, hy, rfl⟩ := hv
             have hm' : c.args.map ρ = #[v, v'] := arr_eq (by rw [Array.toList_map, hm])
             simp only [look] at h
             split at h
             · rename_i s b hx1 hy1
               split at h
               · rename_i hcond
                 obtain ⟨c1, c2, c3⟩ := hcond
                 cases h
                 rw [hx1] at hx
                 rw [hy1] at hy
                 have hcell : w.cell? ⟨gn, 0, none⟩ = some (.int .i64 m) := by
                  have := hI.gl gn _ htab
                  simp only [RPcs, RP] at this
                  obtain ⟨⟨u, hu, rfl⟩, _⟩ := this
                  exact (hI.rdok _ _ _ hu).1
                 have c3' := Nat.le_of_ble_eq_true c3
                 refine ⟨.int .i64 (idxL b.data.toList s.data.toList 0), ?_, by simp [RV, RP]⟩
                 rw [run_callFunc_extern hfn (by rw [hname.1]; rfl) hb (next_indexString hname.1 hname.2) (find_indexString hname.1), hm', hx.str, hy.str, Lib.run_indexString s b w gn m hgn hcell (Nat.le_of_ble_eq_true c1) (sizeLe_le c2) (by omega), idxL_zero]
                 rfl
               · cases h
             · cases h
           · cases hc
         · cases hc
       · cases hc
   · cases hc
 · cases hc
omit [Globs] [SiteRel] in
theorem nilSlice_eq {x : Operand} (h : isNilSlice x = true) : x = .const (.slice none 0 0) := by
 unfold isNilSlice at h
 split at h
 · rfl
 · cases h
theorem nilCmp_ok {op : BinOp} {t : TypeId} {y : Operand} {ne : Bool} (h : nilCmp P op t y = some ne) : ∃ e, P.underlying t = some (.slice e) ∧ y = .const (.slice none 0 0) ∧ ((op = .eql ∧ ne = false) ∨ (op = .neq ∧ ne = true)) := by
 unfold nilCmp at h
 split at h
 · rename_i hy
   split at h
   · rename_i e he
     refine ⟨e, elemOf_ok he, nilSlice_eq hy, ?_⟩
     split at h <;> cases h
     · exact .inl ⟨rfl, rfl⟩
     · exact .inr ⟨rfl, rfl⟩
   · cases h
 · cases h
theorem someIn_ok {x : EV} {v : Value} (h : RV g os x v) (hs : someIn x = true) : ∃ b n c, v = .slice (some b) n c := by
 unfold someIn at hs
 split at hs
 · rename_i a r
   simp only [RV, RP] at h
   obtain ⟨a, cap, rfl, _, h⟩ := h
   rcases h with h | ⟨b, o, sz, rfl, _⟩
   · cases h
   · exact ⟨_, _, _, rfl⟩
 · rename_i a r
   simp only [RV, RP] at h
   obtain ⟨⟨a, cap, rfl, _, h⟩, _⟩ := h
   rcases h with h | ⟨b, o, sz, rfl, _⟩
   · cases h
   · exact ⟨_, _, _, rfl⟩
 · rename_i n f
   simp only [RV] at h
   obtain ⟨_, a, cap, ar, rfl, hl, _, _, _, hp⟩ := h
   have hn : 0 < n := by simpa using hs
   obtain ⟨b, o, rfl, _⟩ := hp (by omega)
   exact ⟨_, _, _, rfl⟩
 · cases hs
set_option maxHeartbeats 4000000 in
theorem look_ok (hI : Inv B w0 g os w) {fr : Fr} {ρ : Operand → Value} (hρ : ∀ v, ρ (.const v) = v) {o : Oper} {d : DOp} (H : ∀ x ∈ o.op.operands, Ans g os fr ρ x) (hc : compOp P o = some d) {lim : Nat} {r : EV} (h : look d fr ⟨os, lim⟩ = some r) :
 Gives P w g os ρ o r := by
 obtain ⟨dst, op, type, pos, after, guard⟩ := o
 cases op <;> simp only [compOp, Op.operands] at hc H
 case move x =>
  cases hx : opX x with
  | none => simp [hx] at hc
  | some X =>
   simp [hx] at hc; subst hc
   simp only [look, Option.some.injEq] at h; subst h
   exact ⟨ρ x, rfl, H x (by simp) X hx⟩
 case assign x =>
  unfold compAssign at hc
  split at hc
  · split at hc
    · split at hc
      · split at hc
        · cases hc; simp [look] at h
        · cases hc
      · cases hc
    · cases hc
  · cases hx : opX x with
    | none => simp [hx] at hc
    | some X =>
     simp [hx] at hc; subst hc
     simp only [look, Option.some.injEq] at h; subst h
     exact ⟨ρ x, rfl, H x (by simp) X hx⟩
 case pick c a b =>
  split at hc
  · rename_i C A B' hC hA hB
    cases hc
    simp only [look] at h
    split at h
    · rename_i t ht
      have hcv := H c (by simp) C hC
      rw [ht] at hcv
      have := hcv.bool
      simp only [Option.some.injEq] at h
      subst h
      refine ⟨if t then ρ a else ρ b, ?_, ?_⟩
      · simp [execOp, this, asBool]
      · cases t
        · exact H b (by simp) B' hB
        · exact H a (by simp) A hA
    · cases h
  · cases hc
 case alloc t =>
  split at hc
  · split at hc
    · cases hc; simp [look] at h
    · cases hc
  · split at hc
    · split at hc
      · cases hc; simp [look] at h
      · cases hc
    · cases hc
 case box t x =>
  split at hc
  · split at hc
    · cases hc; simp [look] at h
    · cases hc
  · cases hc
 case build t parts =>
  split at hc
  · rename_i zs pl hz hp
    cases hm : mapO (partX pl) parts.toList with
    | none => simp [hm] at hc
    | some ps =>
     simp [hm] at hc; subst hc
     simp only [look] at h
     cases hl : lay zs (ps.map fun (o, n, x) => (o, n, x.ev fr)) with
     | none => simp only [hl] at h; cases h
     | some cs =>
      simp only [hl, Option.map_some, Option.some.injEq] at h
      subst h
      obtain ⟨i, z, hi, hzz, hzr, _, _⟩ := zerosT_ok hz
      have hparts := parts_ok (g := g) (os := os) (fr := fr) (ρ := ρ) (l := parts.toList) (fun y hy => H y.2 (by simp; exact ⟨y.1, by simpa using hy⟩)) hm
      refine gives_of (s := Instr.build t (parts.map fun (i, x) => (i, ρ x))) rfl ?_
      exact build_sound hi hzz (hzr g os) (places_ok hp) (by simpa using hparts) hl
  · cases hc
 case buildSlice t len parts =>
  split at hc
  · split at hc
    · split at hc
      · rename_i zs _ _ hcond
        cases hm : mapO rowX parts.toList with
        | none => simp [hm] at hc
        | some ps => simp [hm] at hc; subst hc; simp [look] at h
      · cases hc
    · cases hc
  · cases hc
 case insert t m k x =>
  split at hc
  · split at hc
    · cases hc; simp [look] at h
    · cases hc
  · cases hc
 case load t a =>
  split at hc
  · rename_i ag n A hT hA
    cases hc
    simp only [look] at h
    exact gives_of (s := Instr.loadAt t (ρ a)) rfl (load_sound hI (tyI_ok hT) (H a (by simp) A hA) h)
  · cases hc
 case store t a x =>
  split at hc
  · cases hc; simp [look] at h
  · cases hc
 case nilCheck x =>
  cases hx : opX x with
  | none => simp [hx] at hc
  | some X =>
   simp [hx] at hc; subst hc
   simp only [look] at h
   have hv := H x (by simp) X hx
   split at h
   · rename_i id gn i o he
     cases h
     rw [he] at hv
     have hv' := hv
     simp only [RV] at hv'
     obtain ⟨b0, o0, ar, e, _⟩ := hv'
     exact ⟨ρ x, by simp [execOp, e], hv⟩
   · rename_i cs o he
     cases h
     rw [he] at hv
     have hv' := hv
     simp only [RV] at hv'
     obtain ⟨b0, o0, e, _⟩ := hv'
     exact ⟨ρ x, by simp [execOp, e], hv⟩
   · rename_i f a b he
     cases h
     rw [he] at hv
     have hv' := hv
     simp only [RV] at hv'
     obtain ⟨fa, fb, e, _⟩ := hv'
     exact ⟨ρ x, by simp [execOp, e], hv⟩
   · cases h
 case binOp op t x y yt =>
  split at hc
  · rename_i ne hne
    cases hX : opX x with
    | none => simp [hX] at hc
    | some X =>
     simp [hX] at hc
     subst hc
     simp only [look] at h
     split at h
     · rename_i hs
       cases h
       obtain ⟨e, ht, rfl, hop⟩ := nilCmp_ok hne
       obtain ⟨b, n, c, hv⟩ := someIn_ok (H x (by simp) X hX) hs
       have hy : ρ (.const (.slice none 0 0)) = .slice none 0 0 := hρ _
       have he : (Op.equal t (.slice (some b) n c) (.slice none 0 0)).run P w = .ok false w := by
        apply run_equal_of
        rw [Op.equalIn]
        simp only [Sem.run_bind, run_underlying ht, Result.andThen_ok]
        rfl
       have hgd : (eqGuard op t x (.const (.slice none 0 0)) (.slice (some b) n c) (.slice none 0 0)).run P w = .ok () w := guard_plain (by simp) (by simp)
       refine gives_of (s := do eqGuard op t x (.const (.slice none 0 0)) (ρ x) (ρ (.const (.slice none 0 0))); Go.binOp op t (ρ x) (ρ (.const (.slice none 0 0)))) rfl ⟨.bool ne, ?_, by simp [RV, RP]⟩
       rw [hy, hv]
       simp only [Sem.run_bind, hgd, Result.andThen_ok]
       rcases hop with ⟨rfl, rfl⟩ | ⟨rfl, rfl⟩ <;> simp [Go.binOp, he]
     · cases h
  split at hc
  · rename_i X Y hX hY
    cases hc
    simp only [look] at h
    exact gives_of (s := do eqGuard op t x y (ρ x) (ρ y); Go.binOp op t (ρ x) (ρ y)) rfl (bin_sound (ekOf_ok P t) (H x (by simp) X hX) (H y (by simp) Y hY) h)
  · cases hc
 case unOp op t x =>
  cases hx : opX x with
  | none => simp [hx] at hc
  | some X =>
   simp [hx] at hc; subst hc
   simp only [look, unOp] at h
   have hv := H x (by simp) X hx
   refine gives_of (s := Op.unary op (ρ x)) rfl ?_
   split at h
   · rename_i k n he
     cases h
     rw [he] at hv
     rw [hv.int]
     exact ⟨_, by simp [Op.unary, Op.intArith]; rfl, by simp [RV, RP]⟩
   · rename_i b he
     cases h
     rw [he] at hv
     rw [hv.bool]
     exact ⟨_, by simp [Op.unary]; rfl, by simp [RV, RP]⟩
   · cases h
 case convert s t x =>
  split at hc
  · rename_i k1 k hs ht
    cases hx : opX x with
    | none => simp [hx] at hc
    | some X =>
     simp [hx] at hc; subst hc
     simp only [look] at h
     have hv := H x (by simp) X hx
     split at h
     · rename_i k2 n he
       cases h
       rw [he] at hv
       refine gives_of (s := convert s t (ρ x)) rfl ?_
       rw [hv.int]
       exact ⟨_, by simp [convert, run_underlying hs, run_underlying ht, Conv.intToInt]; rfl, by simp [RV, RP]⟩
     · cases h
  · split at hc
    · simp only [Option.map_eq_some_iff] at hc
      obtain ⟨_, _, rfl⟩ := hc
      simp [look] at h
    · cases hc
  · split at hc
    · simp only [Option.map_eq_some_iff] at hc
      obtain ⟨_, _, rfl⟩ := hc
      simp [look] at h
    · cases hc
  · cases hc
 case makeInterface t x =>
  split at hc
  · cases hc
  · rename_i D hni hu
    cases hx : opX x with
    | none => simp [hx] at hc
    | some X =>
     simp [hx] at hc; subst hc
     simp only [look, Option.some.injEq] at h
     subst h
     refine gives_of (s := Instr.makeInterface t (ρ x)) rfl ⟨.iface t (ρ x), ?_, ?_⟩
     · simp only [Instr.makeInterface, Sem.run_bind, run_underlying hu, Result.andThen_ok]
       cases D <;> first | rfl | exact (hni _ rfl).elim
     · simp only [RV]
       exact ⟨_, rfl, H x (by simp) X hx⟩
  · cases hc
 case typeAssert x s t ok =>
  split at hc
  · rename_i hok
    subst hok
    split at hc
    · cases hc
    · rename_i D hni hu
      split at hc
      · rename_i z X hz hX
        cases hc
        obtain ⟨ie, zv, hie, hzv, hzr⟩ := zeroT_ok hz
        have hv := H x (by simp) X hX
        have hzero : (zeroValue t).run P w = .ok zv w := by simp [zeroValue, typeInfo, hie, hzv]
        simp only [look] at h
        refine gives_of (s := Instr.typeAssert (ρ x) s t true) rfl ?_
        have fail : ∀ (e : r = .tup [z, .p (.bool false)]), RV g os r (.tuple #[zv, .bool false]) := fun e => by
         subst e
         simp only [RV, RVs]
         exact ⟨_, rfl, zv, _, rfl, hzr g os, _, _, rfl, by simp [RP], rfl⟩
        split at h
        · rename_i he
          cases h
          rw [he] at hv
          simp only [RV] at hv
          rw [hv]
          refine ⟨.tuple #[zv, .bool false], ?_, fail rfl⟩
          cases D <;> first | exact (hni _ rfl).elim | simp [Instr.typeAssert, run_underlying hu, hzero]
        · rename_i u v he
          rw [he] at hv
          simp only [RV] at hv
          obtain ⟨uv, hve, hvr⟩ := hv
          rw [hve]
          split at h
          · rename_i hut
            cases h
            refine ⟨.tuple #[uv, .bool true], ?_, ?_⟩
            · cases D <;> first | exact (hni _ rfl).elim | simp [Instr.typeAssert, run_underlying hu, hut]
            · simp only [RV, RVs]
              exact ⟨_, rfl, uv, _, rfl, hvr, _, _, rfl, by simp [RP], rfl⟩
          · rename_i hut
            cases h
            refine ⟨.tuple #[zv, .bool false], ?_, fail rfl⟩
            cases D <;> first | exact (hni _ rfl).elim | simp [Instr.typeAssert, run_underlying hu, hut, hzero]
        · cases h
      · cases hc
    · cases hc
  · cases hc
 case makeFunc f a b =>
  split at hc
  · rename_i A B' hA hB
    cases hc
    simp only [look, Option.some.injEq] at h
    subst h
    refine gives_of (s := Instr.makeFunc f (a.map ρ) (b.map ρ)) rfl ⟨_, rfl, ?_⟩
    simp only [RV]
    exact ⟨_, _, rfl, by simpa using args_ok (fun x hx => H x (by simp; left; simpa using hx)) hA, by simpa using args_ok (fun x hx => H x (by simp; right; simpa using hx)) hB⟩
  · cases hc
 case makeMap t rs =>
  split at hc
  · cases hc; simp [look] at h
  · cases hc
 case makeSlice t l c =>
  split at hc
  · split at hc
    · split at hc
      · split at hc
        · cases hc; simp [look] at h
        · cases hc
      · cases hc
    · cases hc
  · cases hc
 case slice t x lo hi mx =>
  split at hc
  · rename_i X LO HI MX hX hlo hhi hmx
    have hv := H x (by simp) X hX
    have rlo := opt_ok (g := g) (os := os) (fr := fr) (ρ := ρ) (fun y hy => H y (by simp [hy])) hlo
    have rhi := opt_ok (g := g) (os := os) (fr := fr) (ρ := ρ) (fun y hy => H y (by simp [hy])) hhi
    have rmx := opt_ok (g := g) (os := os) (fr := fr) (ρ := ρ) (fun y hy => H y (by simp [hy])) hmx
    refine gives_of (s := Instr.sliceAt t (ρ x) (lo.map ρ) (hi.map ρ) (mx.map ρ)) rfl ?_
    split at hc
    · rename_i e hu
      split at hc
      · rename_i ie hie
        cases hc
        simp only [look] at h
        exact slc_sound hu ⟨ie, hie, rfl⟩ hv rlo rhi rmx h
      · cases hc
    · rename_i hu
      split at hc
      · cases hc
        simp only [look] at h
        simp only [Option.map_none, RO] at rmx
        rw [rmx]
        exact sls_sound hu hv rlo rhi h
      · cases hc
    · rename_i n e hu
      split at hc
      · rename_i ie hie
        split at hc
        · split at hc
          · rename_i hsp
            cases hc
            simp only [look] at h
            simp only [Option.map_none, RO] at rmx
            rw [rmx]
            exact sla_sound hu ⟨ie, hie, rfl⟩ hsp hv rlo rhi h
          · cases hc
        · cases hc
      · cases hc
    · cases hc
  · cases hc
 case fieldAddr s x k =>
  split at hc
  · rename_i f X hf hX
    split at hc
    · rename_i i hi
      split at hc
      · rename_i hn
        cases hc
        obtain ⟨fs, hu, hk⟩ := fieldOf_ok hf
        simp only [look] at h
        exact gives_of (s := Instr.fieldAt s (ρ x) k) rfl (fld_sound hu hk rfl ⟨i, hi, hn⟩ (H x (by simp) X hX) h)
      · cases hc
    · cases hc
  · cases hc
 case field s x k =>
  split at hc
  · rename_i f X hf hX
    split at hc
    · rename_i ag n hT
      cases hc
      obtain ⟨fs, hu, hk⟩ := fieldOf_ok hf
      simp only [look] at h
      exact gives_of (s := Instr.field s (ρ x) k) rfl (fget_sound hu hk rfl (tyI_ok hT) (H x (by simp) X hX) h)
    · cases hc
  · cases hc
 case indexAddr t x i =>
  split at hc
  · rename_i X I hX hi
    refine gives_of (s := Instr.indexAt t (ρ x) (ρ i)) rfl ?_
    split at hc
    · rename_i e hu
      split at hc
      · rename_i ie hie
        cases hc
        simp only [look] at h
        exact ixa_sound hu ⟨ie, hie, rfl⟩ (H x (by simp) X hX) (H i (by simp) I hi) h
      · cases hc
    · rename_i len e hu
      split at hc
      · rename_i ie hie
        cases hc
        simp only [look] at h
        exact ixp_sound hu ⟨ie, hie, rfl⟩ (H x (by simp) X hX) (H i (by simp) I hi) h
      · cases hc
    · cases hc
  · cases hc
 case index t x i =>
  split at hc
  · rename_i X I hX hi
    have hv := H x (by simp) X hX
    have hiv := H i (by simp) I hi
    refine gives_of (s := Instr.index t (ρ x) (ρ i)) rfl ?_
    split at hc
    · rename_i hu
      cases hc
      simp only [look] at h
      split at h
      · rename_i s he
        rw [he] at hv
        split at h
        · rename_i k hk
          split at h
          · rename_i b hb
            cases h
            rw [hv.str]
            exact ⟨_, ixs_sound hu hiv hk hb, by simp [RV, RP]⟩
          · cases h
        · cases h
      · cases h
    · rename_i len e hu
      split at hc
      · rename_i ag n hT
        cases hc
        simp only [look] at h
        split at h
        · rename_i k cs hk he
          rw [he] at hv
          split at h
          · exact ixg_sound hu (tyI_ok hT) hv hiv hk h
          · cases h
        · cases h
      · cases hc
    · cases hc
  · cases hc
 case lookup t m k ok =>
  split at hc
  · rename_i kt et hu
    split at hc
    · rename_i ck z M K hck hz hM hK
      cases hc
      simp only [look] at h
      split at h
      · rename_i v b hg
        cases h
        obtain ⟨ie, zv, hie, hzv, hzr⟩ := zeroT_ok hz
        exact gives_of (s := Instr.lookup t (ρ m) (ρ k) ok) rfl (look_map_sound hI hu (ckOf_ok hck) hie hzv (hzr g os) (H m (by simp) M hM) (H k (by simp) K hK) hg)
      · cases h
    · cases hc
  · cases hc
 case mapUpdate t m k x =>
  split at hc
  · split at hc
    · cases hc; simp [look] at h
    · cases hc
  · cases hc
 case extract x i =>
  cases hx : opX x with
  | none => simp [hx] at hc
  | some X =>
   simp [hx] at hc; subst hc
   simp only [look] at h
   have hv := H x (by simp) X hx
   split at h
   · rename_i vs he
     rw [he] at hv
     simp only [RV] at hv
     obtain ⟨us, e, hv⟩ := hv
     obtain ⟨u, hu, hr⟩ := (RVs_get.1 hv).2 i r h
     refine gives_of (s := Instr.extract (ρ x) i) rfl ⟨u, ?_, hr⟩
     rw [e]
     have hu' : us[i]? = some u := by simpa using hu
     simp [Instr.extract, hu']
   · cases h
 case call c =>
  split at hc
  · rename_i args hargs
    split at hc
    · rename_i b hb
      refine builtin_ok hI (fun x hx => H x (by simp [Call.operands, hb]; simpa using hx)) hargs hb hc h rfl
    · rename_i f hf
      split at hc
      · rename_i d' hd'
        cases hc
        exact ext_ok hI (fun x hx => H x (by simp [Call.operands, hf]; right; simpa using hx)) hargs hf hd' h rfl (RV.fnc (H (.func f) (by simp [Call.operands, hf]) _ rfl))
      · cases hc; simp [look] at h
    · split at hc
      · cases hc; simp [look] at h
      · cases hc
    · cases hc
  · cases hc
 all_goals cases hc
end Dk
namespace Dk
open Go Go.RowKit
variable [Globs] [SiteRel] {P : Program} {B : Nat} {w0 w : World} {g : Gh} {os : List Obj}
def DOp.isNils : DOp → Bool
 | .nils .. => true
 | _ => false
theorem isBldZero_ok {t : TypeId} (h : isBldZero P t = true) : ∃ i, P.info? t = some i ∧ i.zero = some (.agg #[.pointer none, .slice none 0 0]) := by
 unfold isBldZero at h
 split at h
 · rename_i i hi
   split at h
   · rename_i cs hz
     split at h
     · rename_i hl
       refine ⟨i, hi, hz.trans ?_⟩
       have : cs = #[.pointer none, .slice none 0 0] := Array.toList_inj.1 hl
       rw [this]
     · cases h
   · cases h
 · cases h
theorem born_of {ρ : Operand → Value} {o : Oper} {id : Nat} {r : EV} {s : Sem Value} (he : execOp ρ o = (do pure (.value (← s)) : Sem Next)) (h : Born B w0 g os id r (s.run P w)) :
 ∃ u w' g', (execOp ρ o).run P w = .ok (.value u) w' ∧ Inv B w0 g' os w' ∧ Ext g os g' os ∧ RV g' os r u ∧ (∀ i, i ≠ id → g.pend i → g'.pend i) ∧ (∀ i, i ≠ id → g.ph i = none → g'.ph i = none) ∧ ∀ b, g.df b → g'.df b := by
 obtain ⟨u, w', g', h1, h2⟩ := h
 exact ⟨u, w', g', by rw [he]; simp [h1], h2⟩
set_option maxHeartbeats 4000000 in
theorem make_ok (hI : Inv B w0 g os w) {fr : Fr} {ρ : Operand → Value} (hρ : ∀ v, ρ (.const v) = v) {o : Oper} {d : DOp} (H : ∀ x ∈ o.op.operands, Ans g os fr ρ x) (hc : compOp P o = some d) {f : Nat → EV} {ob : Obj} (h : makeObj d fr = some (f, ob))
 {id : Nat} (ho : os[id]? = some ob) (hp : g.ph id = none) (hn : d.isNils = true → ¬ g.pend id) :
 ∃ u w' g', (execOp ρ o).run P w = .ok (.value u) w' ∧ Inv B w0 g' os w' ∧ Ext g os g' os ∧ RV g' os (f id) u ∧ (∀ i, i ≠ id → g.pend i → g'.pend i) ∧ (∀ i, i ≠ id → g.ph i = none → g'.ph i = none) ∧ ∀ b, g.df b → g'.df b := by
 obtain ⟨dst, op, type, pos, after, guard⟩ := o
 cases op <;> simp only [compOp, Op.operands] at hc H
 case assign x =>
  unfold compAssign at hc
  split at hc
  · rename_i hx
    split at hc
    · rename_i e he
      split at hc
      · rename_i ag n hT
        split at hc
        · rename_i h0
          cases hc
          simp only [makeObj, Option.some.injEq, Prod.mk.injEq] at h
          obtain ⟨rfl, rfl⟩ := h
          have hxe := nilSlice_eq hx
          refine born_of (s := pure (ρ x)) rfl (nils_sound hI h0 ho (hn rfl) ?_)
          rw [hxe, hρ]
          rfl
        · cases hc
      · cases hc
    · cases hc
  · cases hx : opX x with
    | none => simp [hx] at hc
    | some X => simp [hx] at hc; subst hc; simp [makeObj] at h
 case alloc t =>
  split at hc
  · rename_i ht
    have ht : t = Globs.bld := Nat.eq_of_beq_eq_true ht
    subst ht
    split at hc
    · rename_i hz
      cases hc
      simp only [makeObj, Option.some.injEq, Prod.mk.injEq] at h
      obtain ⟨rfl, rfl⟩ := h
      obtain ⟨i, hi, hzz⟩ := isBldZero_ok hz
      exact born_of (s := Instr.alloc Globs.bld true (.tuple #[])) rfl (nbld_sound hI hi hzz ho hp)
    · cases hc
  · split at hc
    · rename_i ag n zs hT hz
      split at hc
      · rename_i hcond
        cases hc
        simp only [makeObj, Option.some.injEq, Prod.mk.injEq] at h
        obtain ⟨rfl, rfl⟩ := h
        obtain ⟨i, z, hi, hzz, hzr, h1, _⟩ := zerosT_ok hz
        exact born_of (s := Instr.alloc t true (.tuple #[])) rfl (new_sound hI hi hzz (hzr g os) h1 (by omega) ho hp)
      · cases hc
    · cases hc
 case box t x =>
  split at hc
  · rename_i ag n X hT hX
    split at hc
    · rename_i hcond
      cases hc
      simp only [makeObj] at h
      split at h
      · rename_i hc2
        simp only [Option.some.injEq, Prod.mk.injEq] at h
        obtain ⟨rfl, rfl⟩ := h
        obtain ⟨rfl, h1⟩ := hc2
        exact born_of (s := Instr.box t (ρ x)) rfl (box_sound hI t (H x (by simp) X hX) h1 hcond ho hp)
      · cases h
    · cases hc
  · cases hc
 case buildSlice t len parts =>
  split at hc
  · rename_i e he
    split at hc
    · rename_i ag n zs hT hz
      split at hc
      · rename_i hcond
        obtain ⟨rfl, h0, hlen⟩ := hcond
        cases hm : mapO rowX parts.toList with
        | none => simp [hm] at hc
        | some ps =>
         simp [hm] at hc; subst hc
         simp only [makeObj] at h
         split at h
         · rename_i els hl
           simp only [Option.some.injEq, Prod.mk.injEq] at h
           obtain ⟨rfl, rfl⟩ := h
           obtain ⟨i, z, hi, hzz, hzr, h1, hzs⟩ := zerosT_ok hz
           obtain ⟨i', hi', hsz⟩ := tyI_size hT
           rw [hi] at hi'; cases hi'
           have hrows := rows_ok (g := g) (os := os) (fr := fr) (ρ := ρ) (l := parts.toList) (fun y hy => H y.2 (by simp; exact ⟨y.1, by simpa using hy⟩)) hm
           exact born_of (s := Instr.buildSlice t len (parts.map fun (i, x) => (i, ρ x))) rfl (lit_sound hI (elemOf_ok he) hi hzz (hzr g os) h1 h0 hsz hzs (by rw [hsz]; exact hlen) (by simpa using hrows) hl ho hp)
         · cases h
      · cases hc
    · cases hc
  · cases hc
 case makeMap t rs =>
  split at hc
  · cases hc
    simp only [makeObj, Option.some.injEq, Prod.mk.injEq] at h
    obtain ⟨rfl, rfl⟩ := h
    exact born_of (s := Instr.makeMap t none) rfl (mkmap_sound hI t ho hp)
  · cases hc
 case makeSlice t l c =>
  split at hc
  · rename_i e he
    split at hc
    · rename_i i ag n zs hi hT hz
      split at hc
      · rename_i L C hL hC
        split at hc
        · rename_i hcond
          obtain ⟨rfl, h0⟩ := hcond
          cases hc
          simp only [makeObj] at h
          split at h
          · rename_i n c2 hln hcn
            split at h
            · rename_i hcond2
              obtain ⟨q1, q2, q3, q4⟩ := hcond2
              simp only [Option.some.injEq, Prod.mk.injEq] at h
              obtain ⟨rfl, rfl⟩ := h
              obtain ⟨i2, z, hi2, hzz, hzr, h1, hzs⟩ := zerosT_ok hz
              rw [hi] at hi2; cases hi2
              obtain ⟨i', hi', hsz⟩ := tyI_size hT
              rw [hi] at hi'; cases hi'
              have hlv := H l (by simp) L hL
              have hcv := H c (by simp) C hC
              rw [hln] at hlv
              rw [hcn] at hcv
              have := mks_sound (ag := ag) hI (elemOf_ok he) hi hzz (hzr g os) h1 h0 hsz q1 q2 q3 q4 ho hp
              rw [← hlv.int, ← hcv.int] at this
              exact born_of (s := Instr.makeSlice t (ρ l) (ρ c)) rfl this
            · cases h
          · cases h
        · cases hc
      · cases hc
    · cases hc
  · cases hc
 case call c =>
  split at hc
  · split at hc
    · unfold compBuiltin at hc
      split at hc <;> (repeat' split at hc) <;> first | (cases hc; done) | (cases hc; simp [makeObj] at h; done)
    · split at hc
      · rename_i hd
        cases hc
        unfold extOp at hd
        (repeat' split at hd) <;> first | (cases hd; done) | (cases hd; simp [makeObj] at h; done)
      · cases hc; simp [makeObj] at h
    · split at hc
      · cases hc; simp [makeObj] at h
      · cases hc
    · cases hc
  · cases hc
 all_goals first
  | (cases hc; done)
  | (simp only [Option.map_eq_some_iff] at hc; obtain ⟨_, _, rfl⟩ := hc; simp [makeObj] at h; done)
  | ((repeat' split at hc) <;> first
   | (cases hc; done)
   | (cases hc; simp [makeObj] at h; done)
   | (simp only [Option.map_eq_some_iff] at hc; obtain ⟨_, _, rfl⟩ := hc; simp [makeObj] at h; done))
end Dk
namespace Dk
open Go Go.RowKit
variable [Globs] [SiteRel] {P : Program} {B : Nat} {w0 w w' : World} {g : Gh} {os : List Obj}
def Gh.learn (g : Gh) (w : World) (b n : Nat) : Gh := { g with rd := fun b' o => if b' = b ∧ o < n then w.cell? ⟨b', o, none⟩ else g.rd b' o }
theorem Inv.learn (hI : Inv B w0 g os w) {n : Nat} (hc : Chg w w' w.heap.size) (h1 : ∀ o v, o < n → w'.cell? ⟨w.heap.size, o, none⟩ = some v → v.oneCell' = true) :
 Inv B w0 (g.learn w' w.heap.size n) os w' ∧ Ext g os (g.learn w' w.heap.size n) os ∧ ∀ lim, Kept lim g os (g.learn w' w.heap.size n) os := by
 have hrd : ∀ b o v, g.rd b o = some v → (g.learn w' w.heap.size n).rd b o = some v := by
  intro b o v h
  have hne : b ≠ w.heap.size := fun e => hI.rd_new (by omega) h
  simp only [Gh.learn]
  rw [if_neg (fun q => hne q.1)]
  exact h
 have hE : Ext g os (g.learn w' w.heap.size n) os :=
  ⟨hrd, fun _ ar h => ⟨ar, h, Nat.le_refl _, fun _ => ⟨rfl, fun _ h => h⟩⟩, fun _ es h => ⟨es, h, fun _ h => h⟩, fun _ lo h => ⟨lo, h, fun _ h => h⟩, fun _ _ h => h, fun _ s h => ⟨s, h, fun _ h => h⟩⟩
 have hold : ∀ (k : Nat) (o : Go.Obj), w.heap[k]? = some o → w'.heap[k]? = some o := by
  intro k o hk
  have hlt := (Array.getElem?_eq_some_iff.1 hk).1
  exact (hc.other k hlt (by omega)).trans hk
 refine ⟨⟨hI.pend, hc.below hI.low hI.base hI.base, Nat.le_trans hI.base hc.size, fun b o v hv => ?_, hI.dom, hI.inj, hI.high, fun i ar b x y ho hp => ?_, fun i es b x y ho hp => ?_, fun i lo b x y ho hp => ?_, fun b hb => ?_, hI.gl.mono hrd, fun c b0 hcb => ?_, fun i s b x y ho hp => ?_⟩, hE, fun lim => ⟨fun i hi => ⟨fun h => ⟨h, rfl⟩, fun _ h => h⟩, fun _ h => h⟩⟩
 · simp only [Gh.learn] at hv
   split at hv
   · rename_i hc2
     obtain ⟨rfl, h2⟩ := hc2
     exact ⟨hv, h1 o v h2 hv⟩
   · obtain ⟨q1, q2⟩ := hI.rdok b o v hv
     refine ⟨?_, q2⟩
     have hlt := World.block_lt_of_cell? w ⟨b, o, none⟩ q1
     rw [World.cell?_of_block (w := w) (hc.other b hlt (by simp at hlt; omega))]
     exact q1
 · obtain ⟨h1, h2, h3, arr, T, h4, h5, h6⟩ := hI.cells i ar b x y ho hp
   refine ⟨h1, h2, fun o v hv => ?_, arr, T, hold _ _ h4, h5, fun k el hk => ?_⟩
   · simp only [Gh.learn] at hv
     split at hv
     · rename_i hc2
       have := (Array.getElem?_eq_some_iff.1 h4).1
       omega
     · exact h3 o v hv
   · obtain ⟨q1, q2⟩ := h6 k el hk
     refine ⟨q1, fun j e hj => ?_⟩
     obtain ⟨v, p1, p2, p3⟩ := q2 j e hj
     exact ⟨v, p1, p2, RV.mono hE e v p3⟩
 · obtain ⟨mes, clock, h1, h2, h3⟩ := hI.maps i es b x y ho hp
   refine ⟨mes, clock, hold _ _ h1, h2, fun k kk e hk => ?_⟩
   obtain ⟨m, hm, p1, p2⟩ := h3 k kk e hk
   exact ⟨m, hm, RP.mono hrd kk _ p1, RV.mono hE e _ p2⟩
 · obtain ⟨r, h1, h2⟩ := hI.loops i lo b x y ho hp
   exact ⟨r, hold _ _ h1, h2.mono hE⟩
 · obtain ⟨h1, h2⟩ := hI.defs b hb
   exact ⟨h1, hold _ _ h2⟩
 · obtain ⟨q0, ⟨arr, fz, q1⟩, q2, q3⟩ := hI.bfok c b0 hcb
   refine ⟨q0, ⟨arr, fz, hold _ _ q1⟩, q2, fun o => ?_⟩
   have := hI.bflt hcb
   simp only [Gh.learn]
   rw [if_neg (fun q => by have := q.1; omega)]
   exact q3 o
 · obtain ⟨⟨cs, q1⟩, q2, q3⟩ := hI.blds i s b x y ho hp
   have hlt := (Array.getElem?_eq_some_iff.1 q1).1
   refine ⟨⟨cs, hold _ _ q1⟩, fun o => ?_, fun t ht => (q3 t ht).keep (hc.other b hlt (by omega)) (fun c hcb => hc.other c (hI.bflt hcb) (by have := hI.bflt hcb; omega)) fun _ h => h⟩
   simp only [Gh.learn]
   rw [if_neg (fun q => by have := q.1; omega)]
   exact q2 o
theorem bytes1_vals {g : Gh} {os : List Dk.Obj} : ∀ (els : List (List EV)) (us : List Value) (s t : ByteArray), (∀ el ∈ els, el.length = 1) → RVs g os els.flatten us → bytes1 els s = some t → ∃ ns : List Int, us = ns.map (Value.int .u8) ∧ t = ns.foldl (fun r n => r.push (UInt8.ofNat n.toNat)) s
 | [], us, s, t, _, hv, h => by
  simp only [bytes1] at h
  cases h
  cases us with
  | nil => exact ⟨[], rfl, rfl⟩
  | cons => simp [RVs] at hv
 | el :: r, us, s, t, hl, hv, h => by
  simp only [bytes1] at h
  split at h
  · rename_i n
    simp only [List.flatten_cons, List.cons_append, List.nil_append] at hv
    cases us with
    | nil => simp [RVs] at hv
    | cons u us =>
     simp only [RVs] at hv
     obtain ⟨u', us', eu, h1, h2⟩ := hv
     cases eu
     obtain ⟨ns, e1, e2⟩ := bytes1_vals r us _ t (fun el he => hl el (by simp [he])) h2 h
     have hu : u = .int .u8 n := by simpa [RV, RP] using h1
     exact ⟨n :: ns, by rw [hu, e1]; rfl, e2⟩
  · cases h
theorem text_sound (hI : Inv B w0 g os w) {src dst e : TypeId} (hs : P.underlying src = some (.slice e)) (hd : P.underlying dst = some .string) (he : P.underlying e = some (.int .u8)) {x : EV} {v : Value} (hv : RV g os x v) {lim : Nat} {s : ByteArray} (h : textOf x ⟨os, lim⟩ = some s) :
 (convert src dst v).run P w = .ok (.string s) w := by
 unfold textOf at h
 split at h
 · rename_i els hels
   obtain ⟨a, c, us, rfl, h2, h3, h4, h5⟩ := els_sound (P := P) hI hv hels
   obtain ⟨ns, e1, e2⟩ := bytes1_vals els us _ s h5 h3 h
   have h1 := h2 w rfl
   cases a with
   | none =>
    have hn : ns = [] := by
     have h6 : us = [] := by simpa [Builtin.firstCells] using h1
     rw [h6] at e1
     simpa using e1.symm
    subst hn
    simp only [List.foldl_nil] at e2
    subst e2
    simp [convert, run_underlying hs, run_underlying hd, run_underlying he, Conv.bytesToString]
   | some a =>
    have hr : (loadCells a els.length).run P w = .ok (ns.map (Value.int .u8)).toArray w := by
     rw [← e1]
     simpa [Builtin.firstCells] using h1
    have := run_bytesToString (P := P) w a els.length c ns hr
    rw [e2]
    simp [convert, run_underlying hs, run_underlying hd, run_underlying he, this]
 · cases h
theorem byts_sound (hI : Inv B w0 g os w) {src dst e : TypeId} {u : TypeDesc} (hs : P.underlying src = some u) (hd : P.underlying dst = some (.slice e)) (he : P.underlying e = some (.int .u8)) (s : ByteArray) {lim : Nat} :
 Comes lim B w0 g os os (.p (.list (bytesOf s))) ((convert src dst (.string s)).run P w) := by
 have hcs : ∃ cells : Array Value, cells = (s.data.map fun b => Value.int .u8 b.toNat) ++ Array.replicate (grownCap w s.size 0 e - s.size) (.int .u8 0) := ⟨_, rfl⟩
 obtain ⟨cells, hcs⟩ := hcs
 have hW : ∃ W, W = (w.drew.alloc (.cells cells e)).freeze ⟨w.heap.size, cells.size, none⟩ 1 := ⟨_, rfl⟩
 obtain ⟨W, hW⟩ := hW
 have hrun : (convert src dst (.string s)).run P w = .ok (.slice (some ⟨w.heap.size, 0, none⟩) s.size (grownCap w s.size 0 e)) W := by
  have hsh : ∀ c : Array Value, (w.drew.alloc (.cells c e)).shape? w.heap.size = some (e, c.size) := by
   intro c
   simp [World.shape?, World.alloc, World.drew, -World.alloc_eq, -World.drew_eq]
  rw [hW, hcs]
  simp [convert, run_underlying hs, run_underlying hd, run_underlying he, Conv.stringToBytes, newRow, markStringish, Question.forced, grownCap, hsh, Result.andThen]
 have hnew : W.heap[w.heap.size]? = some (.cells cells e (cells.size, cells.size + 1)) := by
  rw [hW]
  simp [World.freeze, World.alloc, World.drew, -World.alloc_eq, -World.drew_eq]
  rw [Array.getElem_modify_self]
  simp
 have hcell : ∀ o, W.cell? ⟨w.heap.size, o, none⟩ = cells[o]? := by
  intro o
  simp only [World.cell?, hnew]
  rfl
 have hchg : Chg w W w.heap.size := by
  rw [hW]
  refine ⟨rfl, rfl, rfl, by simp [World.freeze, World.alloc, World.drew, -World.alloc_eq, -World.drew_eq], fun k hk hne => ?_⟩
  have h1 : w.heap.size ≠ k := by omega
  simp [World.freeze, World.alloc, World.drew, -World.alloc_eq, -World.drew_eq, Array.getElem?_modify, Array.getElem?_push, h1, Ne.symm h1]
 have hbyte : ∀ o v, o < s.size → cells[o]? = some v → ∃ b : UInt8, s.data.toList[o]? = some b ∧ v = .int .u8 b.toNat := by
  intro o v ho hv
  have hlt : o < s.data.size := ho
  rw [hcs, Array.getElem?_append_left (by simpa using hlt), Array.getElem?_map] at hv
  cases hb : s.data[o]? with
  | none => rw [hb] at hv; cases hv
  | some b => rw [hb] at hv; cases hv; exact ⟨b, by simpa using hb, rfl⟩
 obtain ⟨q1, q2, q3⟩ := hI.learn (n := s.size) hchg (fun o v ho hv => by
  rw [hcell] at hv
  obtain ⟨b, _, rfl⟩ := hbyte o v ho hv
  rfl)
 refine ⟨_, W, _, hrun, q1, q2, ?_, q3 lim⟩
 have hlen : (bytesOf s).length = s.size := by unfold bytesOf; rw [List.length_map]; exact Array.length_toList
 simp only [RV, RP]
 refine ⟨_, _, by rw [hlen], by rw [hlen]; exact grownCap_ge _ _ _ _, .inr ⟨w.heap.size, 0, 1, rfl, by omega, RPl_get.2 fun i x hx => ?_⟩⟩
 have hi : i < s.size := by rw [← hlen]; exact (List.getElem?_eq_some_iff.1 hx).1
 simp only [bytesOf, List.getElem?_map, Option.map_eq_some_iff] at hx
 obtain ⟨b, hb, rfl⟩ := hx
 refine ⟨by simp [PD.cells], RPcs_get.2 fun j c hj => ?_⟩
 cases j with
 | succ j => simp [PD.cells] at hj
 | zero =>
  simp [PD.cells] at hj
  subst hj
  refine ⟨.int .u8 b.toNat, ?_, rfl⟩
  simp only [Gh.learn]
  rw [if_pos ⟨trivial, by omega⟩, hcell]
  have hlt : i < s.data.size := hi
  rw [hcs, Array.getElem?_append_left (by simpa using (show 0 + i * 1 + 0 < s.data.size by omega)), Array.getElem?_map]
  have hb' : s.data[i]? = some b := by simpa using hb
  rw [show 0 + i * 1 + 0 = i by omega, hb']
  rfl
end Dk
namespace Dk
open Go Go.RowKit
variable [Globs] [SiteRel] {P : Program} {B : Nat} {w0 w : World} {g : Gh} {os : List Obj}
def Enters (P : Program) (f : FuncId) (args : Array Value) (w : World) (R : Value → World → Prop) : Prop :=
 match (callFunc f args).run P w with
 | .ok (.enter f' as) w' => Calls P f' as w' fun
  | .returned v, w'' => R v w''
  | _, _ => False
 | _ => False
theorem Enters.mono {f : FuncId} {args : Array Value} {R R' : Value → World → Prop} (h : Enters P f args w R) (hr : ∀ v w', R v w' → R' v w') : Enters P f args w R' := by
 unfold Enters at *
 split
 · rename_i f' as w' he
   rw [he] at h
   exact Calls.mono h fun e w'' q => by cases e <;> first | exact hr _ _ q | exact q
 · rename_i h1
   split at h
   · exact absurd ‹_› (h1 _ _ _)
   · exact h
def Went (lim B : Nat) (w0 : World) (g : Gh) (os os' : List Obj) (r : EV) (u : Value) (w' : World) : Prop :=
 ∃ g', Inv B w0 g' os' w' ∧ Ext g os g' os' ∧ Kept lim g os g' os' ∧ RV g' os' r u
def Yields (P : Program) (l : Nat) (args : Array Value) (w : World) (R : Value → World → Prop) : Prop :=
 match (Instr.yield l args).run P w with
 | .ok (.round l' f tmps assign body) w' => RoundIn Fence.wide 0 P l' f tmps assign body w' fun
  | .returned v, w'' => R v w''
  | _, _ => False
 | _ => False
def pagg : EV := .p (.agg [])
def defNo : Nat := 5000
def EndsD (P : Program) (f : FuncId) (args : Array Value) (w : World) (R : Value → World → Prop) : Prop :=
 CallsDIn Fence.wide 0 P f args .returning w fun e u' w' => ∃ v, e = .returned v ∧ u' = .returning ∧ R v w'
def EntersM (P : Program) (f : FuncId) (args : Array Value) (w : World) (R : Ending → World → Prop) : Prop :=
 match (callFunc f args).run P w with
 | .ok (.enter f' as) w' => Calls P f' as w' R
 | _ => False
def MayW (lim B : Nat) (w0 : World) (g : Gh) (os os' : List Obj) (r : EV) : Ending → World → Prop
 | .returned v, w' => ∃ x, r = .tup [.p (.bool false), x] ∧ Went lim B w0 g os os' x v w'
 | .panicked ch, w' => ∃ x u, r = .tup [.p (.bool true), x] ∧ ch = [{ v := u, recovered := false }] ∧ Went lim B w0 g os os' x u w'
 | .outgrown, _ => False
def PanD (P : Program) (f : FuncId) (args : Array Value) (u : Value) (w : World) (R : Value → World → Prop) : Prop :=
 CallsDIn Fence.wide 0 P f args (.panicking [{ v := u, recovered := false }]) w fun e m w' => ∃ v, e = .returned v ∧ m = .panicking [{ v := u, recovered := true }] ∧ R v w'
structure CallOK (P : Program) (C : CallFn) : Prop where
 calls : ∀ (B : Nat) (w0 w : World) (g : Gh) (os : List Obj) (lim : Nat) (f : FuncId) (args : List EV) (vs : List Value) (r : EV) (h' : Hp), Inv B w0 g os w → RVs g os args vs → C f args ⟨os, lim⟩ = some (r, h') →
  h'.lim = lim ∧ Enters P f vs.toArray w (Went lim B w0 g os h'.objs r)
 rounds : ∀ (B : Nat) (w0 w : World) (g : Gh) (os : List Obj) (lim id l x y : Nat) (lo : LoopO) (args : List EV) (vs : List Value) (r : EV) (h' : Hp), Inv B w0 g os w → g.ph id = some (l, x, y) → os[id]? = some (.loop lo) → RVs g os args vs →
  C yieldNo (rndVs id args) ⟨os, lim⟩ = some (r, h') → h'.lim = lim ∧ Yields P l vs.toArray w (Went lim B w0 g os h'.objs r)
 ends : ∀ (B : Nat) (w0 w : World) (g : Gh) (os : List Obj) (lim n : Nat) (args : List EV) (vs : List Value) (r : EV) (h' : Hp), n < 1000000 → Inv B w0 g os w → RVs g os args vs → C (defNo + n) (args ++ [pagg]) ⟨os, lim⟩ = some (r, h') →
  h'.lim = lim ∧ EndsD P n vs.toArray w (Went lim B w0 g os h'.objs r)
 mays : ∀ (B : Nat) (w0 w : World) (g : Gh) (os : List Obj) (lim n : Nat) (args : List EV) (vs : List Value) (r : EV) (h' : Hp), Inv B w0 g os w → RVs g os args vs → C (mayNo + n) (args ++ [pagm]) ⟨os, lim⟩ = some (r, h') →
  h'.lim = lim ∧ EntersM P n vs.toArray w (MayW lim B w0 g os h'.objs r)
 pans : ∀ (B : Nat) (w0 w : World) (g : Gh) (os : List Obj) (lim n : Nat) (args : List EV) (vs : List Value) (x : EV) (u : Value) (r : EV) (h' : Hp), n < 1000000 → Inv B w0 g os w → RVs g os args vs → RV g os x u → C (panNo + n) (args ++ [x, pagp]) ⟨os, lim⟩ = some (r, h') →
  h'.lim = lim ∧ PanD P n vs.toArray u w (Went lim B w0 g os h'.objs r)
def Free (F : Fence) : Prop := F = Fence.wide ∨ ∃ l, F = Fence.wide.inRound l
theorem Free.fn {F : Fence} (h : Free F) (f : FuncId) : F.fn f := by
 rcases h with rfl | ⟨l, rfl⟩ <;> trivial
theorem Free.depth {F : Fence} (h : Free F) : F.depth = none := by
 rcases h with rfl | ⟨l, rfl⟩ <;> rfl
theorem Free.calls {F : Fence} (h : Free F) {n : Nat} {f : FuncId} {args : Array Value} {R : Ending → World → Prop} (q : Calls P f args w R) : CallsIn F n P f args w R := by
 rcases h with rfl | ⟨l, rfl⟩
 · exact callsIn_wide.2 q
 · exact CallsIn.inRound l (callsIn_wide.2 q)
theorem Free.round {F : Fence} (h : Free F) {n l : Nat} {f : FuncId} {tmps : Array Value} {assign body : Code} {R : Ending → World → Prop} (q : RoundIn Fence.wide 0 P l f tmps assign body w R) : RoundIn F n P l f tmps assign body w R := by
 have q' : RoundIn Fence.wide n P l f tmps assign body w R := ⟨q.1, fun c cs _ => q.2 c cs (room_wide _)⟩
 rcases h with rfl | ⟨l, rfl⟩
 · exact q'
 · exact q'
section
variable {F : Fence} (hF : Free F) {o : Oper} (hd : ∀ c, o.op ≠ .defer c) {a : Act} {next : Act → World → Prop} {Q : Exit → Act → World → Prop}
include hF hd
theorem wp_value {u : Value} {w' : World} (h : (execOp a.eval o).run P w = .ok (.value u) w') (hn : next (a.put o.dst u) w') : o.wpIn F 0 P a w next Q := by
 refine ⟨fun f _ => hF.fn f, ?_⟩
 rw [Oper.semAt_eq _ _ _ hd, h]
 exact hn
theorem wp_skipped {w' : World} (h : (execOp a.eval o).run P w = .ok .skip w') (hn : next (a.put o.dst undef) w') : o.wpIn F 0 P a w next Q := by
 refine ⟨fun f _ => hF.fn f, ?_⟩
 rw [Oper.semAt_eq _ _ _ hd, h]
 exact hn
theorem wp_enters {f : FuncId} {args : Array Value} (h : (execOp a.eval o).run P w = (callFunc f args).run P w)
 {R : Value → World → Prop} (he : Enters P f args w R) (hn : ∀ u w', R u w' → next (a.put o.dst u) w') : o.wpIn F 0 P a w next Q := by
 refine ⟨fun f _ => hF.fn f, ?_⟩
 rw [Oper.semAt_eq _ _ _ hd, h]
 unfold Enters at he
 split at he
 · rename_i heq
   rw [heq]
   simp only [Oper.uponIn]
   refine ⟨fun q => (by rw [hF.depth] at q; cases q), hF.calls (Calls.mono he fun e w'' q => ?_)⟩
   cases e <;> first | exact hn _ _ q | exact q.elim
 · exact he.elim
theorem wp_yields {l : Nat} {args : Array Value} (h : (execOp a.eval o).run P w = (Instr.yield l args).run P w)
 {R : Value → World → Prop} (he : Yields P l args w R) (hn : ∀ u w', R u w' → next (a.put o.dst u) w') : o.wpIn F 0 P a w next Q := by
 refine ⟨fun f _ => hF.fn f, ?_⟩
 rw [Oper.semAt_eq _ _ _ hd, h]
 unfold Yields at he
 split at he
 · rename_i heq
   rw [heq]
   simp only [Oper.uponIn]
   refine ⟨fun q => (by rw [hF.depth] at q; cases q), hF.round (he.mono fun e w'' q => ?_)⟩
   cases e <;> first | exact hn _ _ q | exact q.elim
 · exact he.elim
end
theorem comp_nodefer {o : Oper} {d : DOp} (h : compOp P o = some d) : ∀ c, o.op ≠ .defer c := by
 intro c e
 simp [compOp, e] at h
set_option maxHeartbeats 4000000 in
theorem act_wp {C : CallFn} (hC : CallOK P C) {F : Fence} (hF : Free F) (hI : Inv B w0 g os w) {fr : Fr} {a : Act} {o : Oper} {d : DOp} (H : ∀ x ∈ o.op.operands, Ans g os fr a.eval x) (hc : compOp P o = some d) {lim : Nat} {r : EV} {h' : Hp}
 (h : act C d fr ⟨os, lim⟩ = some (r, h')) :
 h'.lim = lim ∧ ∀ (next : Act → World → Prop) (Q : Exit → Act → World → Prop), (∀ u w', Went lim B w0 g os h'.objs r u w' → next (a.put o.dst u) w') → o.wpIn F 0 P a w next Q := by
 have hd := comp_nodefer hc
 obtain ⟨dst, op, type, pos, after, guard⟩ := o
 have does : ∀ {s : Sem Unit} {h' : Hp}, r = .junk → Does lim B w0 g os h'.objs (s.run P w) → execOp a.eval ⟨dst, op, type, pos, after, guard⟩ = (do s; pure .skip : Sem Next) → ∀ (next : Act → World → Prop) (Q : Exit → Act → World → Prop), (∀ u w', Went lim B w0 g os h'.objs r u w' → next (a.put dst u) w') → Oper.wpIn F 0 P ⟨dst, op, type, pos, after, guard⟩ a w next Q := by
  intro s h' hr hd he next Q hn
  obtain ⟨w', g', h1, h2, h3, h4⟩ := hd
  refine wp_skipped hF hd (w' := w') (by rw [he]; simp [h1]) (hn undef w' ⟨g', h2, h3, h4, ?_⟩)
  rw [hr]
  trivial
 cases op <;> simp only [compOp, Op.operands] at hc H
 case store t x v =>
  split at hc
  · rename_i ag n A V hT hA hV
    cases hc
    simp only [act] at h
    cases hs : storeAt n (A.ev fr) (V.ev fr) ⟨os, lim⟩ with
    | none => simp [hs] at h
    | some h2 =>
     simp [hs] at h
     obtain ⟨rfl, rfl⟩ := h
     obtain ⟨q1, q2⟩ := store_sound (P := P) hI (tyI_ok hT) (H x (by simp) A hA) (H v (by simp) V hV) hs
     exact ⟨q2, does rfl q1 rfl⟩
  · cases hc
 case mapUpdate t m k x =>
  split at hc
  · rename_i kt et hu
    split at hc
    · rename_i ck M K V hck hM hK hV
      cases hc
      simp only [act] at h
      cases hs : mapSet ck (M.ev fr) (K.ev fr) (V.ev fr) ⟨os, lim⟩ with
      | none => simp [hs] at h
      | some h2 =>
       simp [hs] at h
       obtain ⟨rfl, rfl⟩ := h
       obtain ⟨w', g', q1, q2, q3, q4, q5⟩ := mapSet_sound (P := P) hI hu (ckOf_ok hck) (H m (by simp) M hM) (H k (by simp) K hK) (H x (by simp) V hV) hs
       exact ⟨q5, does rfl ⟨w', g', q1, q2, q3, q4⟩ rfl⟩
    · cases hc
  · cases hc
 case insert t m k x =>
  split at hc
  · rename_i kt et hu
    split at hc
    · rename_i ck M K V hck hM hK hV
      cases hc
      simp only [act] at h
      cases hs : mapSet ck (M.ev fr) (K.ev fr) (V.ev fr) ⟨os, lim⟩ with
      | none => simp [hs] at h
      | some h2 =>
       simp [hs] at h
       obtain ⟨rfl, rfl⟩ := h
       obtain ⟨w', g', q1, q2, q3, q4, q5⟩ := mapSet_sound (P := P) hI hu (ckOf_ok hck) (H m (by simp) M hM) (H k (by simp) K hK) (H x (by simp) V hV) hs
       exact ⟨q5, does rfl ⟨w', g', q1, q2, q3, q4⟩ rfl⟩
    · cases hc
  · cases hc
 case call c =>
  split at hc
  · rename_i args hargs
    have Hc : ∀ x ∈ c.args.toList, Ans g os fr a.eval x := fun x hx => H x (by simp [Call.operands]; right; simpa using hx)
    have hv := args_ok Hc hargs
    split at hc
    · rename_i b hb
      obtain ⟨cs, hex⟩ := call_builtin (ρ := a.eval) (o := ⟨dst, .call c, type, pos, after, guard⟩) rfl hb
      unfold compBuiltin at hc
      split at hc
      · rename_i t t2 s x hat
        have hat' : c.argTypes = #[t, t2] := arr_eq hat
        simp only [evs, List.map_cons, List.map_nil, RVs] at hv
        obtain ⟨v, ws, hm, hs, v', ws', rfl, hx, rfl⟩ := hv
        have hm' : c.args.map a.eval = #[v, v'] := arr_eq (by rw [Array.toList_map, hm])
        split at hc
        · rename_i e e2 he he2
          split at hc
          · rename_i i ag n hi hT
            split at hc
            · rename_i z hz
              split at hc
              · rename_i hcond
                obtain ⟨hzs, h0, hby⟩ := hcond
                cases hc
                obtain ⟨i', hi', hsz⟩ := tyI_size hT
                rw [hi] at hi'; cases hi'
                subst hsz
                simp only [act] at h
                obtain ⟨⟨u, w', g', q1, q2, q3, q4, q5⟩, ql⟩ := app_sound (P := P) (ty := type) hI (elemOf_ok he) (elemOf_ok he2) hi hz hzs h0 hby hs hx h
                refine ⟨ql, fun next Q hn => wp_value hF hd (u := u) (w' := w') ?_ (hn u w' ⟨g', q2, q3, q5, q4⟩)⟩
                rw [hex, hat', hm']
                simp only [builtin, Sem.run_bind, q1, Result.andThen_ok, Sem.run_pure]
              · cases hc
            · cases hc
          · cases hc
        · rename_i e he he2
          split at hc
          · rename_i kd hu2
            split at hc
            · rename_i i ag n zs hi hT hzT
              split at hc
              · rename_i z hz
                split at hc
                · rename_i hcond
                  obtain ⟨hzs, h0, hby⟩ := hcond
                  cases hc
                  obtain ⟨i', hi', hsz⟩ := tyI_size hT
                  rw [hi] at hi'; cases hi'
                  subst hsz
                  simp only [act] at h
                  obtain ⟨i', z', hi', hz', hzv, hz1, _⟩ := zerosT_ok hzT
                  rw [hi] at hi'; cases hi'
                  rw [hz] at hz'; cases hz'
                  obtain ⟨⟨u, w', g', q1, q2, q3, q4, q5⟩, ql⟩ := appz_sound (P := P) (ty := type) hI (elemOf_ok he) hu2 hi hz hzs h0 hby (hzv g os) hz1 hs hx h
                  refine ⟨ql, fun next Q hn => wp_value hF hd (u := u) (w' := w') ?_ (hn u w' ⟨g', q2, q3, q5, q4⟩)⟩
                  rw [hex, hat', hm']
                  simp only [builtin, Sem.run_bind, q1, Result.andThen_ok, Sem.run_pure]
                · cases hc
              · cases hc
            · cases hc
          · cases hc
        · cases hc
      · (repeat' split at hc) <;> first | (cases hc; done) | (cases hc; simp [act] at h; done)
      · (repeat' split at hc) <;> first | (cases hc; done) | (cases hc; simp [act] at h; done)
      · rename_i t t2 m k hat
        have hat' : c.argTypes = #[t, t2] := arr_eq hat
        simp only [evs, List.map_cons, List.map_nil, RVs] at hv
        obtain ⟨v, ws, hm, hs, v', ws', rfl, hx, rfl⟩ := hv
        have hm' : c.args.map a.eval = #[v, v'] := arr_eq (by rw [Array.toList_map, hm])
        split at hc
        · rename_i kt et hu
          split at hc
          · rename_i ck hck
            cases hc
            simp only [act] at h
            cases hdl : mapDel ck (m.ev fr) (k.ev fr) ⟨os, lim⟩ with
            | none => simp [hdl] at h
            | some h2 =>
             simp [hdl] at h
             obtain ⟨rfl, rfl⟩ := h
             obtain ⟨w', g', q1, q2, q3, q4, q5⟩ := mapDel_sound (P := P) (ty := type) (ats := #[t, t2]) hI hu (ckOf_ok hck) (by simp) hs hx hdl
             refine ⟨q5, fun next Q hn => wp_value hF hd (u := .tuple #[]) (w' := w') ?_ (hn (.tuple #[]) w' ⟨g', q2, q3, q4, by simp [RV, RVs]⟩)⟩
             rw [hex, hat', hm']
             simp only [builtin, Sem.run_bind, q1, Result.andThen_ok, Sem.run_pure]
          · cases hc
        · cases hc
      all_goals first | (cases hc; done) | (cases hc; simp [act] at h; done)
    · rename_i f hf
      split at hc
      · rename_i hdx
        cases hc
        unfold extOp at hdx
        (repeat' split at hdx) <;> first | (cases hdx; done) | (cases hdx; simp [act] at h; done)
      cases hc
      simp only [act] at h
      obtain ⟨q1, q2⟩ := hC.calls B w0 w g os lim f _ _ r h' hI hv h
      refine ⟨q1, fun next Q hn => wp_enters hF hd (f := f) (args := (c.args.toList.map a.eval).toArray) ?_ q2 hn⟩
      have e1 : (c.args.toList.map a.eval).toArray = c.args.map a.eval := (arr_eq Array.toList_map).symm
      rw [e1]
      simp [execOp, resolve, hf, Act.eval, Deferred.ofValue, invoke]
    · rename_i x hx1 hx
      split at hc
      · rename_i X hX
        cases hc
        simp only [act] at h
        split at h
        · rename_i f fa fb he
          have hxv := H x (by simp [Call.operands, hx]) X hX
          rw [he] at hxv
          simp only [RV] at hxv
          obtain ⟨va, vb, hxe, ha, hb⟩ := hxv
          obtain ⟨q1, q2⟩ := hC.calls B w0 w g os lim f _ _ r h' hI (RVs_append (RVs_append ha hv) hb) h
          refine ⟨q1, fun next Q hn => wp_enters hF hd (f := f) (args := (va.toList ++ c.args.toList.map a.eval ++ vb.toList).toArray) ?_ q2 hn⟩
          have e1 : (va.toList ++ c.args.toList.map a.eval ++ vb.toList).toArray = va ++ c.args.map a.eval ++ vb := (arr_eq (by rw [Array.toList_append, Array.toList_append, Array.toList_map])).symm
          rw [e1]
          simp [execOp, resolve, hx, hxe, Deferred.ofValue, invoke, Array.append_assoc]
        · rename_i id he
          have hxv := H x (by simp [Call.operands, hx]) X hX
          rw [he] at hxv
          simp only [RV] at hxv
          obtain ⟨l, px, py, lo, hxe, hp, ho⟩ := hxv
          obtain ⟨q1, q2⟩ := hC.rounds B w0 w g os lim id l px py lo _ _ r h' hI hp ho hv h
          refine ⟨q1, fun next Q hn => wp_yields hF hd (l := l) (args := (c.args.toList.map a.eval).toArray) ?_ q2 hn⟩
          have e1 : (c.args.toList.map a.eval).toArray = c.args.map a.eval := (arr_eq Array.toList_map).symm
          rw [e1]
          simp [execOp, resolve, hx, hxe, Deferred.ofValue, invoke]
        · cases h
      · cases hc
    · cases hc
  · cases hc
 case convert s t x =>
  split at hc
  · simp only [Option.map_eq_some_iff] at hc; obtain ⟨_, _, rfl⟩ := hc; simp [act] at h
  · rename_i e hs ht
    split at hc
    · rename_i he
      simp only [Option.map_eq_some_iff] at hc
      obtain ⟨X, hX, rfl⟩ := hc
      simp only [act] at h
      split at h
      · rename_i tx htx
        cases h
        have hv := H x (by simp) X hX
        rw [htx] at hv
        obtain ⟨u, w', g', q1, q2, q3, q4, q5⟩ := byts_sound (P := P) (lim := lim) hI hs ht he tx
        refine ⟨rfl, fun next Q hn => wp_value hF hd (u := u) (w' := w') ?_ (hn u w' ⟨g', q2, q3, q5, q4⟩)⟩
        simp only [execOp, Sem.run_bind, hv.str, q1, Result.andThen_ok, Sem.run_pure]
      · cases h
    · cases hc
  · rename_i e hs ht
    split at hc
    · rename_i he
      simp only [Option.map_eq_some_iff] at hc
      obtain ⟨X, hX, rfl⟩ := hc
      simp only [act] at h
      have hv := H x (by simp) X hX
      split at h
      · rename_i s htx
        cases h
        have q1 := text_sound (P := P) hI hs ht he hv htx
        refine ⟨rfl, fun next Q hn => wp_value hF hd (u := .string s) (w' := w) ?_ (hn _ w ⟨g, hI, Ext.refl _ _, Kept.refl _ _ _, by simp [RV, RP]⟩)⟩
        simp only [execOp, Sem.run_bind, q1, Result.andThen_ok, Sem.run_pure]
      · cases h
    · cases hc
  · cases hc
 case assign x =>
  unfold compAssign at hc
  (repeat' split at hc) <;> first
   | (cases hc; done)
   | (cases hc; simp [act] at h; done)
   | (simp only [Option.map_eq_some_iff] at hc; obtain ⟨_, _, rfl⟩ := hc; simp [act] at h; done)
 all_goals first
  | (cases hc; done)
  | (simp only [Option.map_eq_some_iff] at hc; obtain ⟨_, _, rfl⟩ := hc; simp [act] at h; done)
  | ((repeat' split at hc) <;> first
   | (cases hc; done)
   | (cases hc; simp [act] at h; done)
   | (simp only [Option.map_eq_some_iff] at hc; obtain ⟨_, _, rfl⟩ := hc; simp [act] at h; done))
end Dk
namespace Dk
open Go Go.RowKit
variable [Globs] [SiteRel] {P : Program} {B : Nat} {w0 w : World} {g : Gh} {os : List Obj}
theorem Kept.trans {lim : Nat} {g g' g'' : Gh} {os os' os'' : List Obj} (hE : Ext g os g' os') (h : Kept lim g os g' os') (k : Kept lim g' os' g'' os'') : Kept lim g os g'' os'' := by
 refine ⟨fun i hi => ?_, fun b hb => k.df b (h.df b hb)⟩
 have k' := k.old i (Nat.lt_of_lt_of_le hi hE.len)
 refine ⟨fun hp => ?_, fun hl hp => k'.2 hl ((h.old i hi).2 hl hp)⟩
 obtain ⟨h1, h2⟩ := (h.old i hi).1 hp
 obtain ⟨k1, k2⟩ := k'.1 h1
 exact ⟨k1, k2.trans h2⟩
def FrOn (S : Nat → Prop) (g : Gh) (os : List Obj) (fr : Fr) (a : Act) : Prop := ∀ t, S t → RV g os (fr.get t) (a.eval (.tmp t))
abbrev FrOK (g : Gh) (os : List Obj) (fr : Fr) (a : Act) : Prop := FrOn (fun _ => True) g os fr a
theorem FrOn.mono {S : Nat → Prop} {g g' : Gh} {os os' : List Obj} {fr : Fr} {a : Act} (h : FrOn S g os fr a) (hE : Ext g os g' os') : FrOn S g' os' fr a := fun t ht => RV.mono hE _ _ (h t ht)
theorem eval_put (a : Act) (d : Nat) (u : Value) (t : Nat) : (a.put (some d) u).eval (.tmp t) = if d = t ∧ d < a.tmps.size then u else a.eval (.tmp t) := by
 simp only [Act.put, Act.eval, Array.getD_eq_getD_getElem?, Array.getElem?_setIfInBounds]
 by_cases h : d = t
 · subst h
   by_cases h2 : d < a.tmps.size
   · simp [h2]
   · simp [h2, Array.getElem?_eq_none (Nat.le_of_not_lt h2)]
 · simp [h]
omit [Globs] [SiteRel] in
theorem get_put (fr : Fr) (d : Nat) (r : EV) (t : Nat) : (fr.put (some d) r).get t = if d = t then r else fr.get t := by
 simp [Fr.put, Fr.get]
theorem FrOn.put {S : Nat → Prop} {fr : Fr} {a : Act} {r : EV} {u : Value} (h : FrOn S g os fr a) (dst : Option Nat) (hd : ∀ d, dst = some d → d < a.tmps.size) (hr : RV g os r u) :
 FrOn (fun t => S t ∨ dst = some t) g os (fr.put dst r) (a.put dst u) := by
 cases dst with
 | none => intro t ht; exact h t (ht.resolve_right (by simp))
 | some d =>
  intro t ht
  rw [get_put, eval_put]
  by_cases e : d = t
  · rw [if_pos e, if_pos ⟨e, hd d rfl⟩]; exact hr
  · rw [if_neg e, if_neg (fun q => e q.1)]
    exact h t (ht.resolve_right (fun q => e (by cases q; rfl)))
theorem size_put (a : Act) (d : Option Nat) (u : Value) : (a.put d u).tmps.size = a.tmps.size := by
 cases d <;> simp [Act.put]
theorem defers_put (a : Act) (d : Option Nat) (u : Value) : (a.put d u).defers = a.defers := by
 cases d <;> rfl
theorem FrOn.ans {S : Nat → Prop} {fr : Fr} {a : Act} (h : FrOn S g os fr a) (hg : Gl g) {x : Operand} (hx : ∀ t, x = .tmp t → S t) : Ans g os fr a.eval x := by
 intro X hX
 cases x with
 | tmp t => simp [opX] at hX; subst hX; exact h t (hx t rfl)
 | const v =>
  simp only [opX] at hX
  cases hv : ofVal v with
  | none => simp [hv] at hX
  | some e => simp [hv] at hX; subst hX; exact ofVal_ok hv g os
 | func f =>
  simp [opX] at hX; subst hX
  simp only [X.ev, RV, RVs]
  exact ⟨#[], #[], rfl, rfl, rfl⟩
 | global n =>
  simp only [opX, Option.map_eq_some_iff] at hX
  obtain ⟨cs, hcs, rfl⟩ := hX
  simp only [X.ev, RV, Act.eval]
  exact ⟨n, 0, rfl, hg n cs hcs⟩
theorem op_wp {C : CallFn} (hC : CallOK P C) {F : Fence} (hF : Free F) (hI : Inv B w0 g os w) {fr : Fr} {a : Act} {o : Oper} {d : DOp} (H : ∀ x ∈ o.op.operands, Ans g os fr a.eval x) (hc : compOp P o = some d) {lim : Nat} {r : EV} {h' : Hp}
 (h : runOp C d fr ⟨os, lim⟩ = some (r, h')) :
 h'.lim = lim ∧ ∀ (next : Act → World → Prop) (Q : Exit → Act → World → Prop), (∀ u w', Went lim B w0 g os h'.objs r u w' → next (a.put o.dst u) w') → o.wpIn F 0 P a w next Q := by
 have hd := comp_nodefer hc
 unfold runOp at h
 split at h
 · cases hl : look d fr ⟨os, lim⟩ with
   | none => simp [hl] at h
   | some v =>
    simp [hl] at h
    obtain ⟨rfl, rfl⟩ := h
    obtain ⟨u, h1, h2⟩ := look_ok hI (fun v => rfl) H hc hl
    exact ⟨rfl, fun next Q hn => wp_value hF hd h1 (hn u w ⟨g, hI, Ext.refl g os, Kept.refl _ g os, h2⟩)⟩
 · unfold make at h
   split at h
   · rename_i f ob hm
     simp at h
     obtain ⟨rfl, rfl⟩ := h
     refine ⟨rfl, fun next Q hn => ?_⟩
     have hI1 := hI.newV ob false
     have hE1 := Ext.newV g os ob false
     have hpn : g.ph os.length = none := by
      cases hq : g.ph os.length with
      | none => rfl
      | some x => exact absurd (hI.dom _ x hq) (by omega)
     have hnot : ¬ (g.wait os.length false).pend os.length := by
      rintro (⟨_, q⟩ | q)
      · cases q
      · exact absurd (hI.pend _ q).2 (by omega)
     have H1 : ∀ x ∈ o.op.operands, Ans (g.wait os.length false) (os ++ [ob]) fr a.eval x := fun x hx X hX => RV.mono hE1 _ _ (H x hx X hX)
     obtain ⟨u, w', g', q1, q2, q3, q4, q5, q6⟩ := make_ok hI1 (fun v => rfl) H1 hc hm (id := os.length) (by simp) hpn (fun _ => hnot)
     exact wp_value hF hd q1 (hn u w' ⟨g', q2, hE1.trans q3, ⟨fun i hi => ⟨fun hp => ⟨q5 i (by omega) (.inr hp), List.getElem?_append_left hi⟩, fun _ hp => q6.1 i (by omega) hp⟩, q6.2⟩, q4⟩)
   · cases h
 · exact act_wp hC hF hI H hc h
def compStep (P : Program) (nt : Nat) (ops : Array Oper) (o : Oper) : Option Step :=
 match compOp P o with
 | some d => if o.dst.all (· < nt) then match o.guard with
  | none => some ⟨o.dst, d, none, []⟩
  | some (g, want) => match (ops[g]?).bind (·.dst) with
   | some t => if t < nt then some ⟨o.dst, d, some (t, want), []⟩ else none
   | none => none
  else none
 | none => none
def compList (P : Program) (nt : Nat) (ops : Array Oper) : List Oper → Option (List Step)
 | [] => some []
 | o :: r => match compStep P nt ops o with
  | some s => match compList P nt ops r with
   | some l => some (s :: l)
   | none => none
  | none => none
def GuardOf (nt : Nat) (ops : Array Oper) : Option (Nat × Bool) → Option (Nat × Bool) → Prop
 | none, gd => gd = none
 | some (g, want), gd => ∃ t, (ops[g]?).bind (·.dst) = some t ∧ t < nt ∧ gd = some (t, want)
def GuardIs (fr : Fr) : Option (Nat × Bool) → Bool → Prop
 | none, b => b = true
 | some (t, want), b => guardVal (fr.get t) want = some b
omit [SiteRel] in
theorem compStep_ok {nt : Nat} {ops : Array Oper} {o : Oper} {s : Step} (h : compStep P nt ops o = some s) : s.dst = o.dst ∧ s.chk = [] ∧ compOp P o = some s.op ∧ (∀ d, o.dst = some d → d < nt) ∧ GuardOf nt ops o.guard s.guard := by
 unfold compStep at h
 split at h
 · rename_i d hd
   split at h
   · rename_i hdst
     have hb : ∀ d, o.dst = some d → d < nt := fun d e => by simpa [e] using hdst
     split at h
     · rename_i hg
       cases h
       exact ⟨rfl, rfl, hd, hb, by rw [hg]; rfl⟩
     · rename_i gg want hg
       split at h
       · rename_i t ht
         split at h
         · rename_i hlt
           cases h
           exact ⟨rfl, rfl, hd, hb, by rw [hg]; exact ⟨t, ht, hlt, rfl⟩⟩
         · cases h
       · cases h
   · cases h
 · cases h
omit [Globs] [SiteRel] in
theorem runStep_cases {C : CallFn} {s : Step} {fr fr1 : Fr} {h h1 : Hp} (e : runStep C s fr h = some (fr1, h1)) :
 (GuardIs fr s.guard true ∧ ∃ v, runOp C s.op fr h = some (v, h1) ∧ still fr h1 s.chk = true ∧ fr1 = fr.put s.dst v) ∨ (GuardIs fr s.guard false ∧ fr1 = fr.put s.dst (.tup []) ∧ h1 = h) := by
 have key : (match runOp C s.op fr h with | some (v, h') => if still fr h' s.chk then some (fr.put s.dst v, h') else none | none => none) = some (fr1, h1) → ∃ v, runOp C s.op fr h = some (v, h1) ∧ still fr h1 s.chk = true ∧ fr1 = fr.put s.dst v := by
  intro q
  split at q
  · rename_i v h' hr
    split at q
    · rename_i hs
      cases q
      exact ⟨v, hr, hs, rfl⟩
    · cases q
  · cases q
 unfold runStep at e
 cases hg : s.guard with
 | none =>
  rw [hg] at e
  exact .inl ⟨rfl, key e⟩
 | some gw =>
  obtain ⟨t, want⟩ := gw
  rw [hg] at e
  simp only at e
  split at e
  · rename_i hb
    exact .inl ⟨hb, key e⟩
  · rename_i hb
    cases e
    exact .inr ⟨hb, rfl, rfl⟩
  · cases e
omit [Globs] [SiteRel] in
theorem guardVal_some {v : EV} {want b : Bool} (h : guardVal v want = some b) : (∃ c, v = .p (.bool c) ∧ b = (c == want)) ∨ (v = .tup [] ∧ b = false) := by
 unfold guardVal at h
 split at h
 · cases h; exact .inl ⟨_, rfl, rfl⟩
 · cases h; exact .inr ⟨rfl, rfl⟩
 · cases h
theorem wanted_ok {nt : Nat} {ops : Array Oper} {o : Oper} {a : Act} {gd : Option (Nat × Bool)} (hg : GuardOf nt ops o.guard gd) (hsz : a.tmps.size = nt)
 {fr : Fr} (hf : ∀ t b, gd = some (t, b) → RV g os (fr.get t) (a.eval (.tmp t))) {b : Bool} (hb : GuardIs fr gd b) :
 Region.wanted o (yielded ops a.tmps) = b := by
 unfold Region.wanted
 cases ho : o.guard with
 | none =>
  rw [ho] at hg
  simp only [GuardOf] at hg
  subst hg
  simp only [GuardIs] at hb
  simp [hb]
 | some gw =>
  obtain ⟨gi, want⟩ := gw
  rw [ho] at hg
  simp only [GuardOf] at hg
  obtain ⟨t, ht, hlt, rfl⟩ := hg
  rw [← hsz] at hlt
  simp only [GuardIs] at hb
  rcases guardVal_some hb with ⟨c, hc, rfl⟩ | ⟨hc, rfl⟩
  · have hr := hf t want rfl
    rw [hc] at hr
    have hv := hr.bool
    simp only [Act.eval, Array.getD_eq_getD_getElem?, Array.getElem?_eq_getElem hlt, Option.getD_some] at hv
    have hy : yielded ops a.tmps gi = some c := by
     unfold yielded
     rw [ht]
     simp [Array.getElem?_eq_getElem hlt, hv]
    simp only [hy]
    cases c <;> cases want <;> rfl
  · have hr := hf t want rfl
    rw [hc] at hr
    simp only [RV, RVs] at hr
    obtain ⟨vs, hv, _⟩ := hr
    simp only [Act.eval, Array.getD_eq_getD_getElem?, Array.getElem?_eq_getElem hlt, Option.getD_some] at hv
    have hy : yielded ops a.tmps gi = none := by
     unfold yielded
     rw [ht]
     simp [Array.getElem?_eq_getElem hlt, hv]
    simp only [hy]
    cases want <;> rfl
def Marks (g0 g : Gh) (l : List Deferred) : Prop := ∃ bs : List Nat, l = bs.map (fun b => { target := .collected b, args := #[] }) ∧ bs.Nodup ∧ ∀ b ∈ bs, g.df b ∧ ¬ g0.df b
theorem Marks.mono {g0 g g' : Gh} {l : List Deferred} (h : Marks g0 g l) (k : ∀ b, g.df b → g'.df b) : Marks g0 g' l := by
 obtain ⟨bs, h1, h2, h3⟩ := h
 exact ⟨bs, h1, h2, fun b hb => ⟨k b (h3 b hb).1, (h3 b hb).2⟩⟩
theorem Marks.nil (g0 g : Gh) : Marks g0 g [] := ⟨[], rfl, List.nodup_nil, fun _ h => by cases h⟩
def MarksD (D0 : List Deferred × Bool) (g0 g : Gh) (l : List Deferred) : Prop := ∃ ms, l = ms ++ D0.1 ∧ Marks g0 g ms ∧ (D0.2 = true → ms = [])
theorem MarksD.mono {D0 : List Deferred × Bool} {g0 g g' : Gh} {l : List Deferred} (h : MarksD D0 g0 g l) (k : ∀ b, g.df b → g'.df b) : MarksD D0 g0 g' l := by
 obtain ⟨ms, h1, h2, h3⟩ := h
 exact ⟨ms, h1, h2.mono k, h3⟩
theorem MarksD.nil (D0 : List Deferred × Bool) (g0 g : Gh) : MarksD D0 g0 g D0.1 := ⟨[], rfl, Marks.nil g0 g, fun _ => rfl⟩
structure Stands (D0 : List Deferred × Bool) (lim B : Nat) (w0 : World) (nt : Nat) (F : Fence) (g0 : Gh) (os0 : List Obj) (g : Gh) (os : List Obj) (fr : Fr) (a : Act) (w : World) : Prop where
 inv : Inv B w0 g os w
 ext : Ext g0 os0 g os
 kept : Kept lim g0 os0 g os
 fr : FrOK g os fr a
 size : a.tmps.size = nt
 marks : MarksD D0 g0 g a.defers
 rnd : ∀ l, F.round = some l → ∃ id x y lo, g.ph id = some (l, x, y) ∧ os[id]? = some (.loop lo)
theorem rnd_mono {F : Fence} {g g' : Gh} {os os' : List Obj} (h : ∀ l, F.round = some l → ∃ id x y lo, g.ph id = some (l, x, y) ∧ os[id]? = some (.loop lo)) (hE : Ext g os g' os') : ∀ l, F.round = some l → ∃ id x y lo, g'.ph id = some (l, x, y) ∧ os'[id]? = some (.loop lo) := fun l hl => by
 obtain ⟨id, x, y, lo, h1, h2⟩ := h l hl
 obtain ⟨lo', k1, k2⟩ := hE.loops id lo h2
 exact ⟨id, x, y, lo', k2 _ h1, k1⟩
theorem Stands.put {D0 : List Deferred × Bool} {lim nt : Nat} {F : Fence} {g0 : Gh} {os0 : List Obj} {fr : Fr} {a : Act} (h : Stands D0 lim B w0 nt F g0 os0 g os fr a w) {dst : Option Nat} (hd : ∀ d, dst = some d → d < nt) {os' : List Obj} {r : EV} {u : Value} {w' : World} (hw : Went lim B w0 g os os' r u w') :
 ∃ g', Stands D0 lim B w0 nt F g0 os0 g' os' (fr.put dst r) (a.put dst u) w' := by
 obtain ⟨g', h1, h2, h3, h4⟩ := hw
 refine ⟨g', h1, h.ext.trans h2, h.kept.trans h.ext h3, fun t _ => (FrOn.put (h.fr.mono h2) dst (by rw [h.size]; exact hd) h4) t (.inl trivial), by rw [size_put]; exact h.size, by rw [defers_put]; exact h.marks.mono h3.df, rnd_mono h.rnd h2⟩
theorem RV.undef (g : Gh) (os : List Obj) : RV g os (.tup []) undef := by
 simp only [RV, RVs]
 exact ⟨#[], rfl, rfl⟩
theorem Went.stay {lim : Nat} (hI : Inv B w0 g os w) : Went lim B w0 g os os (.tup []) undef w := ⟨g, hI, Ext.refl g os, Kept.refl _ g os, RV.undef g os⟩
theorem steps_wp {D0 : List Deferred × Bool} {C : CallFn} (hC : CallOK P C) {nt : Nat} {F : Fence} (hF : Free F) {g0 : Gh} {os0 : List Obj} {ops : Array Oper} {Q : Exit → Act → World → Prop} {lim : Nat} : ∀ (l : List Nat) (ol : List Oper) (ss : List Step),
 l.map (ops[·]?) = ol.map some → compList P nt ops ol = some ss → ∀ (g : Gh) (os : List Obj) (fr : Fr) (a : Act) (w : World), Stands D0 lim B w0 nt F g0 os0 g os fr a w → ∀ (fr' : Fr) (h' : Hp), runSteps C ss fr ⟨os, lim⟩ = some (fr', h') →
 (∀ g' a' w', Stands D0 lim B w0 nt F g0 os0 g' h'.objs fr' a' w' → h'.lim = lim → Q .normal a' w') → wpOpsIn F 0 P ops Q l a w
 | [], ol, ss, hl, hc, g, os, fr, a, w, hS, fr', h', hr, hQ => by
  have : ol = [] := by simpa using hl.symm
  subst this
  simp [compList] at hc
  subst hc
  simp [runSteps] at hr
  obtain ⟨rfl, rfl⟩ := hr
  exact hQ g a w hS rfl
 | i :: l, ol, ss, hl, hc, g, os, fr, a, w, hS, fr', h', hr, hQ => by
  cases ol with
  | nil => simp at hl
  | cons o ol =>
   simp only [List.map_cons, List.cons.injEq] at hl
   obtain ⟨ho, hl⟩ := hl
   simp only [compList] at hc
   split at hc
   · rename_i s hs
     split at hc
     · rename_i ss' hss
       cases hc
       obtain ⟨h1, h2, h3, h4, h5⟩ := compStep_ok hs
       simp only [runSteps] at hr
       split at hr
       · rename_i fr1 hp1 hstep
         obtain ⟨os1, lim1⟩ := hp1
         have next : ∀ r u w1, Went lim B w0 g os os1 r u w1 → lim1 = lim → fr1 = fr.put o.dst r → wpOpsIn F 0 P ops Q l (a.put o.dst u) w1 := by
          intro r u w1 hw e1 e2
          subst e1 e2
          obtain ⟨g1, hS1⟩ := hS.put h4 hw
          exact steps_wp hC hF l ol ss' hl hss g1 os1 _ _ w1 hS1 fr' h' hr hQ
         have go : ∀ b, GuardIs fr s.guard b → Region.wanted o (yielded ops a.tmps) = b := fun b hb =>
          wanted_ok (g := g) (os := os) (fr := fr) h5 hS.size (fun t b' _ => hS.fr t trivial) hb
         simp only [wpOpsIn, ho]
         rcases runStep_cases hstep with ⟨hg, v, hro, _, hf⟩ | ⟨hg, hf, hh⟩
         · rw [go true hg]
           simp only [if_true]
           obtain ⟨q1, q2⟩ := op_wp hC hF hS.inv (fun x _ => hS.fr.ans hS.inv.gl fun _ _ => trivial) h3 hro
           exact (q2 _ _ fun u w' hw => next v u w' hw q1 (by rw [hf, h1]))
         · rw [go false hg]
           cases hh
           simp only [Bool.false_eq_true, if_false]
           exact ⟨fun f _ => hF.fn f, next (.tup []) undef w (Went.stay hS.inv) rfl (by rw [hf, h1])⟩
       · cases hr
     · cases hc
   · cases hc
end Dk
namespace Dk
open Go Go.RowKit
variable [Globs] [SiteRel] {P : Program} {B : Nat} {w0 w w' : World} {g : Gh} {os : List Obj}
def Gh.defs (g : Gh) (d : Nat → Prop) : Gh := { g with df := d }
theorem Ext.defs (g : Gh) (os : List Obj) (d : Nat → Prop) : Ext g os (g.defs d) os :=
 ⟨fun _ _ _ h => h, fun _ ar h => ⟨ar, h, Nat.le_refl _, fun _ => ⟨rfl, fun _ h => h⟩⟩, fun _ es h => ⟨es, h, fun _ h => h⟩, fun _ lo h => ⟨lo, h, fun _ h => h⟩, fun _ _ h => h, fun _ s h => ⟨s, h, fun _ h => h⟩⟩
theorem Inv.away (hI : Inv B w0 g os w) {b : Nat} {d : Nat → Prop} (hc : Chg w w' b) (hB : B ≤ b) (hn : w.heap.size ≤ b ∨ ∃ ds, w.heap[b]? = some (.deferred ds)) (hd : ∀ x, d x → B ≤ x ∧ w'.heap[x]? = some (.deferred (some []))) :
 Inv B w0 (g.defs d) os w' := by
 have hE := Ext.defs g os d
 have hold : ∀ (k : Nat) (o : Go.Obj), w.heap[k]? = some o → (∀ ds, o ≠ .deferred ds) → w'.heap[k]? = some o := by
  intro k o hk ho
  have hlt := (Array.getElem?_eq_some_iff.1 hk).1
  refine (hc.other k hlt fun e => ?_).trans hk
  subst e
  rcases hn with hs | ⟨ds, hds⟩
  · omega
  · rw [hds] at hk
    exact ho ds (Option.some.inj hk).symm
 refine ⟨hI.pend, hc.below hI.low hB hI.base, Nat.le_trans hI.base hc.size, fun b' o v hv => ?_, hI.dom, hI.inj, hI.high, fun i ar b' x y ho hp => ?_, fun i es b' x y ho hp => ?_, fun i lo b' x y ho hp => ?_, hd, hI.gl.mono fun _ _ _ h => h, fun c b0 hcb => ?_, fun i s b' x y ho hp => ?_⟩
 · obtain ⟨h1, h2⟩ := hI.rdok b' o v hv
   refine ⟨?_, h2⟩
   obtain ⟨ob, q1, q2⟩ := cells_of_cell h1
   rw [World.cell?_of_block (w := w) ((hold b' ob q1 (fun ds e => by subst e; cases q2)).trans q1.symm)]
   exact h1
 · obtain ⟨h1, h2, h3, arr, T, h4, h5, h6⟩ := hI.cells i ar b' x y ho hp
   refine ⟨h1, h2, h3, arr, T, hold _ _ h4 (fun ds e => by cases e), h5, fun k el hk => ?_⟩
   obtain ⟨q1, q2⟩ := h6 k el hk
   refine ⟨q1, fun j e hj => ?_⟩
   obtain ⟨v, p1, p2, p3⟩ := q2 j e hj
   exact ⟨v, p1, p2, RV.mono hE e v p3⟩
 · obtain ⟨mes, clock, h1, h2, h3⟩ := hI.maps i es b' x y ho hp
   refine ⟨mes, clock, hold _ _ h1 (fun ds e => by cases e), h2, fun k kk e hk => ?_⟩
   obtain ⟨m, hm, p1, p2⟩ := h3 k kk e hk
   exact ⟨m, hm, p1, RV.mono hE e _ p2⟩
 · obtain ⟨r, h1, h2⟩ := hI.loops i lo b' x y ho hp
   exact ⟨r, hold _ _ h1 (fun ds e => by cases e), h2.mono hE⟩
 · obtain ⟨q0, ⟨arr, fz, q1⟩, q2, q3⟩ := hI.bfok c b0 hcb
   exact ⟨q0, ⟨arr, fz, hold _ _ q1 (fun ds e => by cases e)⟩, q2, q3⟩
 · obtain ⟨⟨cs, q1⟩, q2, q3⟩ := hI.blds i s b' x y ho hp
   refine ⟨⟨cs, hold _ _ q1 (fun ds e => by cases e)⟩, q2, fun t ht => (q3 t ht).keep ((hold _ _ q1 (fun ds e => by cases e)).trans q1.symm) (fun c hcb => ?_) fun _ h => h⟩
   obtain ⟨q0, ⟨arr, fz, q1⟩, _⟩ := hI.bfok c b' hcb
   exact (hold _ _ q1 (fun ds e => by cases e)).trans q1.symm
theorem Chg.putObj (w : World) (b : Nat) (o : Go.Obj) : Chg w (w.putObj b o) b :=
 ⟨rfl, rfl, rfl, by simp, fun k _ hk => World.putObj_heap_other hk⟩
theorem Inv.setLoop (hI : Inv B w0 g os w) {id l x y : Nat} {lo lo' : LoopO} {r r' : Go.Loop} (ho : os[id]? = some (.loop lo)) (hp : g.ph id = some (l, x, y)) (hr : w.heap[l]? = some (.loop r)) (hL : LoopIs g os lo' r') :
 Inv B w0 (g.at id (l, x, y)) (os.set id (.loop lo')) (w.putObj l (.loop r')) ∧ Ext g os (g.at id (l, x, y)) (os.set id (.loop lo')) ∧ (∀ lim, Kept lim g os (g.at id (l, x, y)) (os.set id (.loop lo'))) ∧ (os.set id (.loop lo'))[id]? = some (.loop lo') := by
 have hlt := (List.getElem?_eq_some_iff.1 ho).1
 have hl := (Array.getElem?_eq_some_iff.1 hr).1
 have hE := Ext.setLoop (lo' := lo') ho hp
 refine ⟨hI.upd (Chg.putObj w l _) (by simpa using hl) (hI.high id l x y hp) (.inl ⟨x, y, hp⟩) (fun i hi => List.getElem?_set_ne (Ne.symm hi)) (List.getElem?_set_self hlt) hE (fun o v hv => ?_) ⟨r', World.putObj_heap_same hl, hL⟩, hE, fun lim => kept_ph hI hp _ _, List.getElem?_set_self hlt⟩
 obtain ⟨h1, _⟩ := hI.rdok l o v hv
 obtain ⟨ob, q1, q2⟩ := cells_of_cell h1
 rw [hr] at q1
 cases q1
 cases q2
theorem enter_ok {D0 : List Deferred × Bool} {lim : Nat} (hI : Inv B w0 g os w) {F : Fence} (hF : Free F) {g0 : Gh} {os0 : List Obj} {nt : Nat} {fr : Fr} {a : Act} (hS : Stands D0 lim B w0 nt F g0 os0 g os fr a w) {lo : LoopO} {ps : Array Tmp} {assign body : Code} (fn : FuncId)
 (h0 : D0.2 = false) (hlo : SiteRel.rel lo.ps lo.a lo.b nt ps assign body) (hst : lo.st = .ready) (hfr : ∀ t, RV g os (Fr.get lo.fr t) (a.tmps.getD t undef)) :
 ∃ l mark W g', (Instr.enterLoop fn a.tmps ps assign body F.round).run P w = .ok (l, mark) W ∧ Inv B w0 g' (os ++ [.loop lo]) W ∧ Ext g os g' (os ++ [.loop lo]) ∧ Kept lim g os g' (os ++ [.loop lo]) ∧ g'.ph os.length = some (l, 0, 0) ∧ MarksD D0 g0 g' (mark ++ a.defers) := by
 have is : ∀ (d : Nat) (g1 : Gh), Ext g os g1 os → LoopIs g1 os lo { state := .ready, pending := none, fn, tmps := a.tmps, params := ps, assign, body, defers := d } := fun d g1 hE =>
  ⟨by rw [hS.size]; exact hlo, by rw [hst]; exact ⟨rfl, rfl⟩, fun t => RV.mono hE _ _ (hfr t)⟩
 rcases hF with rfl | ⟨l0, rfl⟩
 · let d : Nat → Prop := fun x => x = w.heap.size ∨ g.df x
   have h1 : Inv B w0 (g.defs d) os (w.alloc (.deferred (some []))) := by
    refine hI.away (Chg.alloc w _) hI.base (.inl (Nat.le_refl _)) fun x hx => ?_
    rcases hx with rfl | hx
    · exact ⟨hI.base, World.alloc_heap_new w _⟩
    · obtain ⟨q1, q2⟩ := hI.defs x hx
      exact ⟨q1, (Below.heap_alloc w _ x (Array.getElem?_eq_some_iff.1 q2).1).trans q2⟩
   have hE1 := Ext.defs g os d
   have h2 := h1.new (O := .loop { state := .ready, pending := none, fn, tmps := a.tmps, params := ps, assign, body, defers := w.heap.size }) (ob := .loop lo) (base := 0) (tot := 0) ⟨_, World.alloc_heap_new _ _, is _ _ hE1⟩
   have hK : Kept lim g os ((g.defs d).at os.length ((w.alloc (.deferred (some []))).heap.size, 0, 0)) (os ++ [.loop lo]) := ⟨(kept_new (g := g) (os := os) (lim := lim) _ _).old, fun b hb => .inr hb⟩
   refine ⟨w.heap.size + 1, _, _, _, run_enterLoop_outer fn a.tmps ps assign body, h2, hE1.trans (Ext.new _ _ _ _), hK, by rw [Gh.at_same]; simp, ?_⟩
   obtain ⟨ms, em, ⟨bs, e1, e2, e3⟩, e4⟩ := hS.marks
   refine ⟨{ target := .collected w.heap.size, args := #[] } :: ms, by rw [em]; rfl, ⟨w.heap.size :: bs, by rw [e1]; rfl, List.nodup_cons.2 ⟨fun hb => ?_, e2⟩, fun b hb => ?_⟩, fun q => (by rw [h0] at q; cases q)⟩
   · have := (Array.getElem?_eq_some_iff.1 (hI.defs _ (e3 _ hb).1).2).1
     omega
   · rcases List.mem_cons.1 hb with rfl | hb
     · refine ⟨.inl rfl, fun q => ?_⟩
       have := (Array.getElem?_eq_some_iff.1 (hI.defs _ (hS.kept.df _ q)).2).1
       omega
     · exact ⟨.inr (e3 b hb).1, (e3 b hb).2⟩
 · obtain ⟨id, x, y, lo1, hp, ho⟩ := hS.rnd l0 rfl
   obtain ⟨r0, hr0, _⟩ := hI.loops id lo1 l0 x y ho hp
   have h2 := hI.new (O := .loop { state := .ready, pending := none, fn, tmps := a.tmps, params := ps, assign, body, defers := r0.defers }) (ob := .loop lo) (base := 0) (tot := 0) ⟨_, World.alloc_heap_new _ _, is _ _ (Ext.refl g os)⟩
   refine ⟨w.heap.size, [], _, _, ?_, h2, Ext.new _ _ _ _, kept_new _ _, by rw [Gh.at_same], hS.marks.mono fun _ h => h⟩
   unfold Instr.enterLoop
   simp only [Fence.inRound_round, Sem.run_bind, run_getLoop hr0, run_newObj_alloc, Result.andThen, Sem.run_pure]
theorem leaves_ok {fn : Func} {tmps : Array Value} {R : Ending → World → Prop} : ∀ (bs : List Nat) (g : Gh) (w : World), Inv B w0 g os w → bs.Nodup → (∀ b ∈ bs, g.df b) →
 (∀ (d : Nat → Prop) (w' : World), Inv B w0 (g.defs d) os w' → (∀ x, g.df x → x ∉ bs → d x) → ∃ v, (results fn tmps).run P w' = .ok v w' ∧ R (.returned v) w') →
 LeavesInM Fence.wide 0 P fn tmps R (bs.map fun b => { target := .collected b, args := #[] }) .returning w
 | [], g, w, hI, _, _, h => h g.df w hI fun x hx _ => hx
 | b :: bs, g, w, hI, hn, hd, h => by
  obtain ⟨hB, hb⟩ := hI.defs b (hd b (by simp))
  obtain ⟨hn1, hn2⟩ := List.nodup_cons.1 hn
  refine ⟨by simp, .inl ⟨b, _, rfl, run_takeDeferred hb, ?_⟩⟩
  have h1 : Inv B w0 (g.defs fun x => x ≠ b ∧ g.df x) os (w.putObj b (.deferred none)) := hI.away (Chg.putObj w b _) hB (.inr ⟨_, hb⟩) fun x hx =>
   ⟨(hI.defs x hx.2).1, (World.putObj_heap_other hx.1).trans (hI.defs x hx.2).2⟩
  exact leaves_ok bs _ _ h1 hn2 (fun x hx => ⟨fun e => hn1 (e ▸ hx), hd x (by simp [hx])⟩) fun d w' hI' hd' => h d w' hI' fun x hx hxb => hd' x ⟨fun e => hxb (by simp [e]), hx⟩ (fun hx' => hxb (by simp [hx']))
end Dk
namespace Dk
open Go Go.RowKit
variable [Globs] [SiteRel] {P : Program} {B : Nat} {w0 w : World} {g : Gh} {os : List Obj}
omit [Globs] [SiteRel] in
theorem least (p : Nat → Prop) (h : ∃ n, p n) : ∃ n, p n ∧ ∀ m, p m → n ≤ m := by
 obtain ⟨n, hn⟩ := h
 induction n using Nat.strongRecOn with
 | _ n ih =>
  by_cases q : ∃ m, m < n ∧ p m
  · obtain ⟨m, hm, hp⟩ := q
    exact ih m hm hp
  · exact ⟨n, hn, fun m hm => Nat.le_of_not_lt fun hlt => q ⟨m, hlt, hm⟩⟩
def exOf : Ex → Exit
 | .normal => .normal
 | .exit id => .exit id
 | .ret => .ret
omit [Globs] [SiteRel] in
theorem get_mask (fr : Fr) (keep : List Nat) (t : Nat) : Fr.get (keep.map fun k => (k, fr.get k)) t = fr.get t ∨ Fr.get (keep.map fun k => (k, fr.get k)) t = .junk := by
 induction keep with
 | nil => exact .inr rfl
 | cons k r ih =>
  simp only [List.map_cons, Fr.get]
  by_cases h : k = t
  · rw [if_pos h, h]; exact .inl rfl
  · rw [if_neg h]; exact ih
theorem FrOn.mask {S : Nat → Prop} {fr : Fr} {a : Act} (h : FrOn S g os fr a) (keep : List Nat) : FrOn S g os (keep.map fun k => (k, fr.get k)) a := fun t ht => by
 rcases get_mask fr keep t with e | e <;> rw [e]
 · exact h t ht
 · trivial
abbrev DrawFn := Nat → Array Oper → Option (List Step)
def stuckL : List Step := [⟨none, .nz (.v .junk), none, []⟩]
theorem stuck_none {C : CallFn} {s : St} {o : Out} (h : exec C (.ops stuckL) s = some o) : False := by
 simp [exec, runSteps, stuckL, runStep, runOp, DOp.kind, look, X.ev] at h
def compCode (P : Program) (nt : Nat) (dr : DrawFn) : Code → List (List Nat) → Option (DC × List (List Nat))
 | .skip, k => some (.skip, k)
 | .label _, k => some (.skip, k)
 | .region id ops draw, k => match (if draw then dr id ops else compList P nt ops ops.toList) with
  | some l => some (.ops l, k)
  | none => some (.ops stuckL, k)
 | .seq a b, k => match compCode P nt dr a k with
  | some (a', k') => match compCode P nt dr b k' with
   | some (b', k'') => some (.seq a' b', k'')
   | none => none
  | none => none
 | .cond c a b, k => match opX c, compCode P nt dr a k with
  | some x, some (a', k') => match compCode P nt dr b k' with
   | some (b', k'') => some (.cond x a' b', k'')
   | none => none
  | _, _ => none
 | .block id c, k => match compCode P nt dr c k with
  | some (c', k') => some (.block id c', k')
  | none => none
 | .loop c, k => match k with
  | keep :: k => match compCode P nt dr c k with
   | some (c', k') => some (.loop keep c', k')
   | none => none
  | [] => none
 | .scope c, k => compCode P nt dr c k
 | .exit id, k => some (.exit id, k)
 | .ret, k => some (.ret, k)
 | .rangeFunc g ps assign body, k => match k with
  | keep :: k => match opX g, compCode P nt dr assign k with
   | some x, some (a', k') => match compCode P nt dr body k' with
    | some (b', k'') => if ps.toList.all (· < nt) = true then some (.range ps.toList keep x a' b', k'') else none
    | none => none
   | _, _ => none
  | [] => none
 | _, k => some (.ops stuckL, k)
def SiteOK (P : Program) (nt : Nat) (dr : DrawFn) : Prop :=
 ∀ (ps : Array Tmp) (assign body : Code) (k k1 k2 : List (List Nat)) (a b : DC), ps.toList.all (· < nt) = true → compCode P nt dr assign k = some (a, k1) → compCode P nt dr body k1 = some (b, k2) → SiteRel.rel ps.toList a b nt ps assign body
section
variable {F : Fence} {n : Nat} {b : Frame} {a : Act} {k : List Item} {cs : List Frame} {Q : Exit → Act → World → Prop}
omit [Globs] [SiteRel] in
theorem stepR_scope {c : Code} : step P (lone (b.atR a (.code (.scope c) :: k)) cs w) = .next (lone (b.atR a (.code c :: .inScope c :: k)) cs w) :=
 step_lone_go (by simp [stepG, stepG.exec, Frame.atR])
omit [Globs] [SiteRel] in
theorem stepR_inScope {c : Code} : step P (lone (b.atR a (.inScope c :: k)) cs w) = .next (lone (b.atR a k) cs w) :=
 step_lone_go (by simp [stepG, stepG.exec, Frame.atR])
omit [Globs] [SiteRel] in
theorem wpIn_scope_straight {c : Code} (h : c.wpIn F n P (Exit.noGoto Q) a w) : (Code.scope c).wpIn F n P Q a w := by
 intro b k cs hro hb hr
 have h0 : (lone (b.atR a (.code (.scope c) :: k)) cs w).fenced P F := fenced_calm hb hr rfl
 obtain ⟨e, a₁, w₁, hq, harr⟩ := h b (.inScope c :: k) cs hro hb hr
 cases e with
 | normal => exact ⟨.normal, a₁, w₁, hq, .head h0 stepR_scope (StepsIn.trans harr (.one (fenced_calm hb hr rfl) stepR_inScope))⟩
 | exit id =>
  have hx : exitTo id (.inScope c :: k) = exitTo id k := by simp [exitTo]
  exact ⟨.exit id, a₁, w₁, hq, fun k' hk => .head h0 stepR_scope (harr.1 k' (by rw [hx]; exact hk)),
   fun hr' hk => let ⟨k₁, h1, h2⟩ := harr.2 hr' (by rw [hx]; exact hk); ⟨k₁, h1, .head h0 stepR_scope h2⟩⟩
 | goto l => exact hq.elim
 | ret => exact ⟨_, a₁, w₁, hq, .of_steps (.one h0 stepR_scope) harr⟩
 | panic ch => exact ⟨_, a₁, w₁, hq, .of_steps (.one h0 stepR_scope) harr⟩
 | outgrown => exact ⟨_, a₁, w₁, hq, .of_steps (.one h0 stepR_scope) harr⟩
end
def DrawOK (P : Program) (C : CallFn) (nt : Nat) (dr : DrawFn) : Prop :=
 ∀ (id : Nat) (ops : Array Oper) (ss : List Step), dr id ops = some ss → ∀ (D0 : List Deferred × Bool) (B : Nat) (w0 : World) (F : Fence), Free F → ∀ (g0 : Gh) (os0 : List Obj) (g : Gh) (os : List Obj) (fr : Fr) (a : Act) (w : World) (lim : Nat) (fr' : Fr) (h' : Hp) (Q : Exit → Act → World → Prop),
  Stands D0 lim B w0 nt F g0 os0 g os fr a w → runSteps C ss fr ⟨os, lim⟩ = some (fr', h') →
  (∀ g' a' w', Stands D0 lim B w0 nt F g0 os0 g' h'.objs fr' a' w' → h'.lim = lim → Q .normal a' w') → (Code.region id ops true).wpIn F 0 P Q a w
def DC.noRange : DC → Bool
 | .seq a b => a.noRange && b.noRange
 | .cond _ a b => a.noRange && b.noRange
 | .block _ c => c.noRange
 | .loop _ c => c.noRange
 | .range .. => false
 | _ => true
omit [Globs] [SiteRel] in
theorem noR_seq {K : Prop} {a b : DC} (h : K → (DC.seq a b).noRange = true) : (K → a.noRange = true) ∧ (K → b.noRange = true) := ⟨fun k => by have := h k; simp [DC.noRange] at this; exact this.1, fun k => by have := h k; simp [DC.noRange] at this; exact this.2⟩
omit [Globs] [SiteRel] in
theorem noR_cond {K : Prop} {x : X} {a b : DC} (h : K → (DC.cond x a b).noRange = true) : (K → a.noRange = true) ∧ (K → b.noRange = true) := ⟨fun k => by have := h k; simp [DC.noRange] at this; exact this.1, fun k => by have := h k; simp [DC.noRange] at this; exact this.2⟩
theorem code_wp {D0 : List Deferred × Bool} {C : CallFn} (hC : CallOK P C) {nt : Nat} {dr : DrawFn} (hD : DrawOK P C nt dr) (hT : SiteOK P nt dr) {F : Fence} (hF : Free F) {g0 : Gh} {os0 : List Obj} {lim : Nat} : ∀ (c : Code) (k k' : List (List Nat)) (d : DC), compCode P nt dr c k = some (d, k') → (D0.2 = true → d.noRange = true) →
 ∀ (g : Gh) (os : List Obj) (fr : Fr) (a : Act) (w : World), Stands D0 lim B w0 nt F g0 os0 g os fr a w → ∀ (e : Ex) (fr' : Fr) (h' : Hp), exec C d (fr, ⟨os, lim⟩) = some (e, fr', h') →
 ∀ (Q : Exit → Act → World → Prop), (∀ g' a' w', Stands D0 lim B w0 nt F g0 os0 g' h'.objs fr' a' w' → h'.lim = lim → Q (exOf e) a' w') → c.wpIn F 0 P Q a w := by
 intro c
 induction c with
 | skip =>
  intro k k' d hc hN g os fr a w hS e fr' h' hx Q hQ
  simp only [compCode, Option.some.injEq, Prod.mk.injEq] at hc
  obtain ⟨rfl, rfl⟩ := hc
  simp [exec] at hx
  obtain ⟨rfl, rfl, rfl⟩ := hx
  exact wpIn_skip (hQ g a w hS rfl)
 | label l =>
  intro k k' d hc hN g os fr a w hS e fr' h' hx Q hQ
  simp only [compCode, Option.some.injEq, Prod.mk.injEq] at hc
  obtain ⟨rfl, rfl⟩ := hc
  simp [exec] at hx
  obtain ⟨rfl, rfl, rfl⟩ := hx
  exact wpIn_label (hQ g a w hS rfl)
 | region id ops draw =>
  intro k k' d hc hN g os fr a w hS e fr' h' hx Q hQ
  simp only [compCode] at hc
  split at hc
  · rename_i l hl
    simp only [Option.some.injEq, Prod.mk.injEq] at hc
    obtain ⟨rfl, rfl⟩ := hc
    simp only [exec] at hx
    split at hx
    · rename_i fr1 h1 hr
      simp only [Option.some.injEq, Prod.mk.injEq] at hx
      obtain ⟨rfl, rfl, rfl⟩ := hx
      cases draw with
      | true => exact hD id ops l (by simpa using hl) D0 B w0 F hF g0 os0 g os fr a w lim _ _ Q hS hr hQ
      | false =>
       refine wpIn_region (steps_wp hC hF (List.range ops.size) ops.toList l ?_ (by simpa using hl) g os fr a w hS _ _ hr hQ)
       apply List.ext_getElem?
       intro n
       simp only [List.getElem?_map, List.getElem?_range']
       by_cases hn : n < ops.size
       · simp [hn]
       · simp [hn]
    · cases hx
  · simp only [Option.some.injEq, Prod.mk.injEq] at hc
    obtain ⟨rfl, rfl⟩ := hc
    exact (stuck_none hx).elim
 | seq x y ihx ihy =>
  intro k k' d hc hN g os fr a w hS e fr' h' hx Q hQ
  simp only [compCode] at hc
  split at hc
  · rename_i a' k1 ha
    split at hc
    · rename_i b' k2 hb
      simp only [Option.some.injEq, Prod.mk.injEq] at hc
      obtain ⟨rfl, rfl⟩ := hc
      simp only [exec] at hx
      refine wpIn_seq ?_
      split at hx
      · rename_i fr1 h1 he
        refine ihx _ _ _ ha (noR_seq hN).1 g os fr a w hS _ _ _ he _ fun g1 a1 w1 hS1 hl => ?_
        obtain ⟨os1, lim1⟩ := h1
        subst hl
        exact ihy _ _ _ hb (noR_seq hN).2 g1 os1 fr1 a1 w1 hS1 _ _ _ hx Q hQ
      · rename_i hne
        refine ihx _ _ _ ha (noR_seq hN).1 g os fr a w hS _ _ _ hx _ fun g1 a1 w1 hS1 hl => ?_
        cases e with
        | normal => exact absurd hx (hne _ _)
        | exit i => exact hQ g1 a1 w1 hS1 hl
        | ret => exact hQ g1 a1 w1 hS1 hl
    · cases hc
  · cases hc
 | cond c x y ihx ihy =>
  intro k k' d hc hN g os fr a w hS e fr' h' hx Q hQ
  simp only [compCode] at hc
  split at hc
  · rename_i X a' k1 hX ha
    split at hc
    · rename_i b' k2 hb
      simp only [Option.some.injEq, Prod.mk.injEq] at hc
      obtain ⟨rfl, rfl⟩ := hc
      simp only [exec] at hx
      split at hx
      · rename_i t ht
        have hv := hS.fr.ans hS.inv.gl (x := c) (fun _ _ => trivial) X hX
        rw [ht] at hv
        cases t with
        | true => exact wpIn_cond_true hv.bool (ihx _ _ _ ha (noR_cond hN).1 g os fr a w hS _ _ _ (by simpa using hx) Q hQ)
        | false => exact wpIn_cond_false hv.bool (ihy _ _ _ hb (noR_cond hN).2 g os fr a w hS _ _ _ (by simpa using hx) Q hQ)
      · cases hx
    · cases hc
  · cases hc
 | block id c ih =>
  intro k k' d hc hN g os fr a w hS e fr' h' hx Q hQ
  simp only [compCode] at hc
  split at hc
  · rename_i c' k1 hcc
    simp only [Option.some.injEq, Prod.mk.injEq] at hc
    obtain ⟨rfl, rfl⟩ := hc
    simp only [exec] at hx
    refine wpIn_block ?_
    split at hx
    · rename_i i fr1 h1 he
      refine ih _ _ _ hcc hN g os fr a w hS _ _ _ he _ fun g1 a1 w1 hS1 hl => ?_
      simp only [exOf, Exit.inBlock]
      split at hx
      · rename_i hi
        simp only [Option.some.injEq, Prod.mk.injEq] at hx
        obtain ⟨rfl, rfl, rfl⟩ := hx
        rw [if_pos hi]
        exact hQ g1 a1 w1 hS1 hl
      · rename_i hi
        simp only [Option.some.injEq, Prod.mk.injEq] at hx
        obtain ⟨rfl, rfl, rfl⟩ := hx
        rw [if_neg hi]
        exact hQ g1 a1 w1 hS1 hl
    · rename_i hne
      refine ih _ _ _ hcc hN g os fr a w hS _ _ _ hx _ fun g1 a1 w1 hS1 hl => ?_
      cases e with
      | normal => exact hQ g1 a1 w1 hS1 hl
      | exit i => exact absurd hx (hne _ _ _)
      | ret => exact hQ g1 a1 w1 hS1 hl
  · cases hc
 | loop c ih =>
  intro k k' d hc hN g os fr a w hS e fr' h' hx Q hQ
  simp only [compCode] at hc
  split at hc
  · rename_i keep k1
    split at hc
    · rename_i c' k2 hcc
      simp only [Option.some.injEq, Prod.mk.injEq] at hc
      obtain ⟨rfl, rfl⟩ := hc
      simp only [exec, rounds] at hx
      split at hx
      · rename_i hex
        obtain ⟨n, hn⟩ : ∃ n, roundsN (exec C c') keep n (fr, ⟨os, lim⟩) = some (e, fr', h') := ⟨_, hx⟩
        clear hx hex
        let R : Nat → Act → World → Prop := fun n a w => ∃ g os fr, Stands D0 lim B w0 nt F g0 os0 g os fr a w ∧ roundsN (exec C c') keep n (fr, ⟨os, lim⟩) = some (e, fr', h')
        let μ : Act → World → Nat := fun a w => open Classical in if h : ∃ n, R n a w then (least _ h).choose else 0
        have hμ : ∀ a w, (∃ n, R n a w) → R (μ a w) a w ∧ ∀ m, R m a w → μ a w ≤ m := by
         intro a w h
         simp only [μ, dif_pos h]
         exact (least _ h).choose_spec
        refine wpIn_loop (fun a w => ∃ n, R n a w) μ ⟨n, g, os, fr, hS, hn⟩ fun a w hI => ?_
        obtain ⟨⟨g1, os1, fr1, hS1, hr⟩, hmin⟩ := hμ a w hI
        cases hm : μ a w with
        | zero => rw [hm] at hr; simp [roundsN] at hr
        | succ m =>
         rw [hm] at hr
         simp only [roundsN] at hr
         have hS2 : Stands D0 lim B w0 nt F g0 os0 g1 os1 (keep.map fun k => (k, fr1.get k)) a w := ⟨hS1.inv, hS1.ext, hS1.kept, hS1.fr.mask keep, hS1.size, hS1.marks, hS1.rnd⟩
         split at hr
         · rename_i fr2 h2 he
           refine ih _ _ _ hcc hN g1 os1 _ a w hS2 _ _ _ he _ fun g3 a3 w3 hS3 hl => ?_
           obtain ⟨os3, lim3⟩ := h2
           subst hl
           have hR : R m a3 w3 := ⟨g3, os3, fr2, hS3, hr⟩
           exact ⟨⟨m, hR⟩, by have := (hμ a3 w3 ⟨m, hR⟩).2 m hR; omega⟩
         · rename_i hne
           refine ih _ _ _ hcc hN g1 os1 _ a w hS2 _ _ _ hr _ fun g3 a3 w3 hS3 hl => ?_
           cases e with
           | normal => exact absurd hr (hne _ _)
           | exit i => exact hQ g3 a3 w3 hS3 hl
           | ret => exact hQ g3 a3 w3 hS3 hl
      · cases hx
    · cases hc
  · cases hc
 | scope c ih =>
  intro k k' d hc hN g os fr a w hS e fr' h' hx Q hQ
  simp only [compCode] at hc
  refine wpIn_scope_straight (ih _ _ _ hc hN g os fr a w hS _ _ _ hx _ fun g1 a1 w1 hS1 hl => ?_)
  have := hQ g1 a1 w1 hS1 hl
  cases e <;> exact this
 | exit id =>
  intro k k' d hc hN g os fr a w hS e fr' h' hx Q hQ
  simp only [compCode, Option.some.injEq, Prod.mk.injEq] at hc
  obtain ⟨rfl, rfl⟩ := hc
  simp [exec] at hx
  obtain ⟨rfl, rfl, rfl⟩ := hx
  exact wpIn_exit (hQ g a w hS rfl)
 | ret =>
  intro k k' d hc hN g os fr a w hS e fr' h' hx Q hQ
  simp only [compCode, Option.some.injEq, Prod.mk.injEq] at hc
  obtain ⟨rfl, rfl⟩ := hc
  simp [exec] at hx
  obtain ⟨rfl, rfl, rfl⟩ := hx
  exact wpIn_ret (hQ g a w hS rfl)
 | rangeFunc gop ps assign body iha ihb =>
  intro k k' d hc hN g os fr a w hS e fr' h' hx Q hQ
  simp only [compCode] at hc
  split at hc
  · rename_i keep k1
    split at hc
    · rename_i X da k2 hX ha
      split at hc
      · rename_i db k3 hb
        split at hc
        · rename_i hps
          simp only [Option.some.injEq, Prod.mk.injEq] at hc
          obtain ⟨rfl, rfl⟩ := hc
          simp only [exec] at hx
          split at hx
          · rename_i f u v he
            split at hx
            · rename_i rv h1 hcall
              split at hx
              · rename_i l1 hl1
                split at hx
                · rename_i e1 hend
                  simp only [Option.some.injEq, Prod.mk.injEq] at hx
                  obtain ⟨rfl, rfl, rfl⟩ := hx
                  have hg := hS.fr.ans hS.inv.gl (x := gop) (fun _ _ => trivial) X hX
                  rw [he] at hg
                  simp only [RV] at hg
                  obtain ⟨fa, fb, hge, hfa, hfb⟩ := hg
                  refine wpIn_rangeFunc fun fn _ => ?_
                  obtain ⟨l, mark, W, g1, q1, q2, q3, q4, q5, q6⟩ := enter_ok hS.inv hF hS (h0 := by cases hd : D0.2 with | false => rfl | true => exact absurd (hN hd) (by simp [DC.noRange])) (lo := ⟨ps.toList, da, db, keep.map fun k => (k, fr.get k), .ready⟩) (ps := ps) (assign := assign) (body := body) fn (hT ps assign body k1 k2 k3 da db hps ha hb) rfl (fun t => hS.fr.mask keep t trivial)
                  have hy : RV g1 (os ++ [.loop ⟨ps.toList, da, db, keep.map fun k => (k, fr.get k), .ready⟩]) (.yld os.length) (.func (.yield l) #[] #[]) := by
                   simp only [RV]
                   exact ⟨l, 0, 0, ⟨ps.toList, da, db, keep.map fun k => (k, fr.get k), .ready⟩, rfl, q5, by simp⟩
                  have hargs : RVs g1 (os ++ [.loop ⟨ps.toList, da, db, keep.map fun k => (k, fr.get k), .ready⟩]) (u ++ [.yld os.length] ++ v) (fa.toList ++ [.func (.yield l) #[] #[]] ++ fb.toList) :=
                   RVs_append (RVs_append (RVs.mono q3 _ _ hfa) (by simp only [RVs]; exact ⟨_, _, rfl, hy, rfl⟩)) (RVs.mono q3 _ _ hfb)
                  obtain ⟨os1, lim1⟩ := h1
                  obtain ⟨r1, r2⟩ := hC.calls B w0 W g1 _ lim f _ _ rv _ q2 hargs hcall
                  simp only at r1 r2
                  subst r1
                  unfold Enters at r2
                  split at r2
                  · rename_i f' as W' hcf
                    refine ⟨l, mark, W, ⟨.fn (.func f) fb, fa ++ #[.func (.yield l) #[] #[]]⟩, W, f', as, W', q1, ?_, fun f' _ => hF.fn f', ?_, fun q => (by rw [hF.depth] at q; cases q), hF.calls (Calls.mono r2 fun en w3 hen => ?_)⟩
                    · have hge' : a.eval gop = .func (.func f) fa fb := hge
                      have hy' : ∀ z, Act.eval a (.const z) = z := fun _ => rfl
                      simp [resolve, hge', Deferred.ofValue, hy']
                    · have e1 : (fa.toList ++ [Value.func (.yield l) #[] #[]] ++ fb.toList).toArray = fa ++ #[.func (.yield l) #[] #[]] ++ fb := by simp
                      rw [e1] at hcf
                      simpa [invoke] using hcf
                    · cases en with
                      | returned rv' =>
                       obtain ⟨g2, p1, p2, p3, _⟩ := hen
                       obtain ⟨_, _, hph⟩ := p2.loops os.length _ (by simp : (os ++ [Obj.loop ⟨ps.toList, da, db, keep.map fun k => (k, fr.get k), .ready⟩])[os.length]? = some (.loop ⟨ps.toList, da, db, keep.map fun k => (k, fr.get k), .ready⟩))
                       have hp := hph _ q5
                       obtain ⟨r, hr, hL⟩ := p1.loops os.length l1 l 0 0 hl1 hp
                       have hst : r.state ≠ .busy ∧ r.pending = jumpOf e1 := by
                        have := hL.2.1
                        cases hs : l1.st with
                        | ready => rw [hs] at this hend; cases hend; exact ⟨by rw [this.1]; simp, this.2⟩
                        | busy => rw [hs] at hend; cases hend
                        | done e2 => rw [hs] at this hend; cases hend; exact ⟨by rw [this.1]; simp, this.2⟩
                        | over => rw [hs] at hend; cases hend
                       obtain ⟨s1, s2, s3, _⟩ := p1.setLoop (lo' := { l1 with st := .over }) (r' := { r with state := .exhausted }) hl1 hp hr ⟨hL.1, trivial, hL.2.2⟩
                       refine ⟨r.pending, _, run_endLoop hr hst.1, ?_⟩
                       have hS' : Stands D0 lim1 B w0 nt F g0 os0 (g2.at os.length (l, 0, 0)) (os1.set os.length (.loop { l1 with st := .over })) fr { a with defers := mark ++ a.defers } (w3.putObj l (.loop { r with state := .exhausted })) :=
                        ⟨s1, (hS.ext.trans q3).trans (p2.trans s2), (hS.kept.trans hS.ext q4).trans (hS.ext.trans q3) (p3.trans p2 (s3 lim1)), (hS.fr.mono q3).mono (p2.trans s2), hS.size, q6.mono fun b hb => (s3 lim1).df b (p3.df b hb), rnd_mono hS.rnd (q3.trans (p2.trans s2))⟩
                       have hq := hQ _ _ _ hS' rfl
                       rw [hst.2] at hq ⊢
                       cases e1 with
                       | normal => exact hq
                       | exit i => exact wpIn_exit hq
                       | ret => exact wpIn_ret hq
                      | panicked c => exact hen.elim
                      | outgrown => exact hen.elim
                  · exact r2.elim
                · cases hx
              · cases hx
            · cases hx
          · cases hx
        · cases hc
      · cases hc
    · cases hc
  · cases hc
 | _ =>
  intro k k' d hc hN g os fr a w hS e fr' h' hx
  simp only [compCode, Option.some.injEq, Prod.mk.injEq] at hc
  obtain ⟨rfl, rfl⟩ := hc
  exact (stuck_none hx).elim
end Dk
namespace Dk
open Go Go.RowKit
variable [Globs] [SiteRel] {P : Program} {B : Nat} {w0 w : World}
def RPs (rd : Nat → Nat → Option Value) : List PD → List Value → Prop
 | [], vs => vs = []
 | c :: r, vs => ∃ v ws, vs = v :: ws ∧ RP rd c v ∧ RPs rd r ws
theorem RPs.mono {rd rd' : Nat → Nat → Option Value} (h : ∀ b o v, rd b o = some v → rd' b o = some v) : ∀ (cs : List PD) (vs : List Value), RPs rd cs vs → RPs rd' cs vs
 | [], _, q => q
 | c :: r, vs, q => by
  obtain ⟨v, ws, rfl, q1, q2⟩ := q
  exact ⟨v, ws, rfl, RP.mono h c v q1, RPs.mono h r ws q2⟩
theorem RPs_get {rd : Nat → Nat → Option Value} : ∀ {cs : List PD} {vs : List Value}, RPs rd cs vs → cs.length = vs.length ∧ ∀ (i : Nat) (c : PD), cs[i]? = some c → ∃ v, vs[i]? = some v ∧ RP rd c v
 | [], vs, q => by simp only [RPs] at q; subst q; simp
 | c :: r, vs, q => by
  obtain ⟨v, ws, rfl, q1, q2⟩ := q
  obtain ⟨l, h⟩ := RPs_get q2
  refine ⟨by simp [l], fun i c' hi => ?_⟩
  cases i with
  | zero => simp at hi; subst hi; exact ⟨v, rfl, q1⟩
  | succ i => simpa using h i c' (by simpa using hi)
def RVss (g : Gh) (os : List Obj) : List (List EV) → List (List Value) → Prop
 | [], vs => vs = []
 | e :: r, vs => ∃ v ws, vs = v :: ws ∧ RVs g os e v ∧ RVss g os r ws
def RPss (rd : Nat → Nat → Option Value) : List PD → List (List Value) → Prop
 | [], vs => vs = []
 | x :: r, vs => ∃ v ws, vs = v :: ws ∧ RPs rd x.cells v ∧ RPss rd r ws
theorem RVss.mono {g g' : Gh} {os os' : List Obj} (h : Ext g os g' os') : ∀ (es : List (List EV)) (vs : List (List Value)), RVss g os es vs → RVss g' os' es vs
 | [], _, q => q
 | e :: r, vs, q => by
  obtain ⟨v, ws, rfl, q1, q2⟩ := q
  exact ⟨v, ws, rfl, RVs.mono h e v q1, RVss.mono h r ws q2⟩
theorem RPss_get {rd : Nat → Nat → Option Value} : ∀ {xs : List PD} {vs : List (List Value)}, RPss rd xs vs → xs.length = vs.length ∧ ∀ (i : Nat) (x : PD), xs[i]? = some x → ∃ v, vs[i]? = some v ∧ RPs rd x.cells v
 | [], vs, q => by simp only [RPss] at q; subst q; simp
 | c :: r, vs, q => by
  obtain ⟨v, ws, rfl, q1, q2⟩ := q
  obtain ⟨l, h⟩ := RPss_get q2
  refine ⟨by simp [l], fun i c' hi => ?_⟩
  cases i with
  | zero => simp at hi; subst hi; exact ⟨v, rfl, q1⟩
  | succ i => simpa using h i c' (by simpa using hi)
theorem RPss.mono {rd rd' : Nat → Nat → Option Value} (h : ∀ b o v, rd b o = some v → rd' b o = some v) : ∀ (xs : List PD) (vs : List (List Value)), RPss rd xs vs → RPss rd' xs vs
 | [], _, q => q
 | x :: r, vs, q => by
  obtain ⟨v, ws, rfl, q1, q2⟩ := q
  exact ⟨v, ws, rfl, RPs.mono h x.cells v q1, RPss.mono h r ws q2⟩
def Marked (os os' : List Obj) : Prop := os.length = os'.length ∧ ∀ (id : Nat) (ar : Arr), os[id]? = some (.cells ar) → ∃ ar', os'[id]? = some (.cells ar') ∧ ar'.gen = ar.gen ∧ ar'.sz = ar.sz ∧ ar'.ag = ar.ag ∧ ar'.els = ar.els
theorem Marked.refl (os : List Obj) : Marked os os := ⟨rfl, fun _ ar h => ⟨ar, h, rfl, rfl, rfl, rfl⟩⟩
theorem Marked.trans {os os' os'' : List Obj} (h : Marked os os') (k : Marked os' os'') : Marked os os'' := ⟨h.1.trans k.1, fun id ar ho => by
 obtain ⟨ar', h1, h2, h3, h4, h5⟩ := h.2 id ar ho
 obtain ⟨ar'', k1, k2, k3, k4, k5⟩ := k.2 id ar' h1
 exact ⟨ar'', k1, k2.trans h2, k3.trans h3, k4.trans h4, k5.trans h5⟩⟩
structure Shared (B : Nat) (w0 w : World) (g : Gh) (os : List Obj) (g' : Gh) (os' : List Obj) : Prop where
 inv : Inv B w0 g' os' w
 ext : Ext g os g' os'
 kept : ∀ lim, Kept lim g os g' os'
 marked : Marked os os'
 ph : g'.ph = g.ph
 pend : g'.pend = g.pend
theorem Shared.refl {g : Gh} {os : List Obj} (h : Inv B w0 g os w) : Shared B w0 w g os g os := ⟨h, Ext.refl g os, fun lim => Kept.refl lim g os, Marked.refl os, rfl, rfl⟩
theorem Shared.trans {g g' g'' : Gh} {os os' os'' : List Obj} (h : Shared B w0 w g os g' os') (k : Shared B w0 w g' os' g'' os'') : Shared B w0 w g os g'' os'' :=
 ⟨k.inv, h.ext.trans k.ext, fun lim => (h.kept lim).trans h.ext (k.kept lim), h.marked.trans k.marked, k.ph.trans h.ph, k.pend.trans h.pend⟩
def Gh.know (g : Gh) (w : World) (b lo hi : Nat) : Gh := { g with rd := fun b' o => if b' = b ∧ lo ≤ o ∧ o < hi then w.cell? ⟨b', o, none⟩ else g.rd b' o }
theorem know_ok {g : Gh} {os : List Obj} (hI : Inv B w0 g os w) {id b base tot : Nat} {ar : Arr} (ho : os[id]? = some (.cells ar)) (hp : g.ph id = some (b, base, tot)) {off len : Nat} (hle : off + len ≤ ar.els.length) :
 Shared B w0 w g os (g.know w b (base + off * ar.sz) (base + (off + len) * ar.sz)) (os.set id (.cells { ar with frz := max ar.frz (off + len) })) := by
 have hlt := (List.getElem?_eq_some_iff.1 ho).1
 obtain ⟨h1, h2, h3, arr, T, h4, h5, h6⟩ := hI.cells id ar b base tot ho hp
 have hcell : ∀ o, w.cell? ⟨b, o, none⟩ = arr[o]? := fun o => cell_of_row w b o arr T (0, 0) h4
 have hrd : ∀ b' o v, g.rd b' o = some v → (g.know w b (base + off * ar.sz) (base + (off + len) * ar.sz)).rd b' o = some v := by
  intro b' o v hv
  simp only [Gh.know]
  split
  · exact (hI.rdok b' o v hv).1
  · exact hv
 have hE : Ext g os (g.know w b (base + off * ar.sz) (base + (off + len) * ar.sz)) (os.set id (.cells { ar with frz := max ar.frz (off + len) })) := by
  refine ⟨hrd, fun i a h => ?_, fun i es h => ?_, fun i es h => ?_, fun _ _ h => h, fun i es h => ?_⟩
  · by_cases hi : i = id
    · subst hi
      rw [ho] at h; cases h
      exact ⟨{ ar with frz := max ar.frz (off + len) }, List.getElem?_set_self hlt, Nat.le_refl _, fun _ => ⟨rfl, fun y hy => hy⟩⟩
    · exact ⟨a, by rw [List.getElem?_set_ne (Ne.symm hi)]; exact h, Nat.le_refl _, fun _ => ⟨rfl, fun y hy => hy⟩⟩
  · have hi : i ≠ id := by rintro rfl; rw [ho] at h; cases h
    exact ⟨es, by rw [List.getElem?_set_ne (Ne.symm hi)]; exact h, fun y hy => hy⟩
  · have hi : i ≠ id := by rintro rfl; rw [ho] at h; cases h
    exact ⟨es, by rw [List.getElem?_set_ne (Ne.symm hi)]; exact h, fun y hy => hy⟩
  · have hi : i ≠ id := by rintro rfl; rw [ho] at h; cases h
    exact ⟨es, by rw [List.getElem?_set_ne (Ne.symm hi)]; exact h, fun y hy => hy⟩
 refine ⟨⟨fun i hi => ⟨(hI.pend i hi).1, by simpa using (hI.pend i hi).2⟩, hI.low, hI.base, ?_, fun i x hx => by simpa using hI.dom i x hx, hI.inj, hI.high, ?_, ?_, ?_, hI.defs, hI.gl.mono hE.rd, fun c b0 hcb => ?_, fun i s b' x y ha hpi => ?_⟩, hE, fun lim => ⟨fun i _ => ⟨fun hpend => ⟨hpend, ?_⟩, fun _ h => h⟩, fun _ h => h⟩, ⟨by simp, fun i a h => ?_⟩, rfl, rfl⟩
 · intro b' o v hv
   simp only [Gh.know] at hv
   split at hv
   · rename_i hc
     obtain ⟨rfl, q1, q2⟩ := hc
     refine ⟨hv, ?_⟩
     rw [hcell] at hv
     have hq : (o - base) / ar.sz < off + len := by
      rw [Nat.div_lt_iff_lt_mul h1]; omega
     have hel := List.getElem?_eq_getElem (show (o - base) / ar.sz < ar.els.length by omega)
     obtain ⟨e1, e2⟩ := h6 _ _ hel
     have hmod : (o - base) % ar.sz < ar.sz := Nat.mod_lt _ h1
     have hj := List.getElem?_eq_getElem (show (o - base) % ar.sz < (ar.els[(o - base) / ar.sz]'(by omega)).length by rw [e1]; exact hmod)
     obtain ⟨u, hu, hu1, _⟩ := e2 _ _ hj
     have hge : base ≤ o := by
      have := Nat.zero_le (off * ar.sz)
      omega
     have hdm : base + (o - base) / ar.sz * ar.sz + (o - base) % ar.sz = o := by
      have := Nat.div_add_mod (o - base) ar.sz
      rw [Nat.mul_comm] at this
      omega
     rw [hdm, hv] at hu
     cases hu
     exact hu1
   · exact hI.rdok b' o v hv
 · intro i a b' x y ha hpi
   by_cases hi : i = id
   · subst hi
     rw [List.getElem?_set_self hlt] at ha
     cases ha
     have : (b', x, y) = (b, base, tot) := by
      have hpi' : g.ph i = some (b', x, y) := hpi
      rw [hp] at hpi'
      exact (Option.some.inj hpi').symm
     cases this
     refine ⟨h1, h2, fun o v hv => ?_, arr, T, h4, h5, fun k el hk => ?_⟩
     · simp only [Gh.know] at hv
       have m1 : (off + len) * ar.sz ≤ max ar.frz (off + len) * ar.sz := Nat.mul_le_mul_right _ (Nat.le_max_right _ _)
       have m2 : ar.frz * ar.sz ≤ max ar.frz (off + len) * ar.sz := Nat.mul_le_mul_right _ (Nat.le_max_left _ _)
       show o < base + max ar.frz (off + len) * ar.sz
       split at hv
       · omega
       · have := h3 o v hv
         omega
     · obtain ⟨e1, e2⟩ := h6 k el hk
       refine ⟨e1, fun j e hj => ?_⟩
       obtain ⟨v, q1, q2, q3⟩ := e2 j e hj
       exact ⟨v, q1, q2, RV.mono hE e v q3⟩
   · rw [List.getElem?_set_ne (Ne.symm hi)] at ha
     have hpi' : g.ph i = some (b', x, y) := hpi
     obtain ⟨k1, k2, k3, arr', T', k4, k5, k6⟩ := hI.cells i a b' x y ha hpi'
     refine ⟨k1, k2, fun o v hv => ?_, arr', T', k4, k5, fun k el hk => ?_⟩
     · simp only [Gh.know] at hv
       rw [if_neg (fun q => by
        obtain ⟨rfl, _⟩ := q
        exact hi (hI.inj i id _ _ _ _ _ hpi' hp))] at hv
       exact k3 o v hv
     · obtain ⟨e1, e2⟩ := k6 k el hk
       refine ⟨e1, fun j e hj => ?_⟩
       obtain ⟨v, q1, q2, q3⟩ := e2 j e hj
       exact ⟨v, q1, q2, RV.mono hE e v q3⟩
 · intro i es b' x y ha hpi
   have hi : i ≠ id := by
    rintro rfl
    rw [List.getElem?_set_self hlt] at ha
    cases ha
   rw [List.getElem?_set_ne (Ne.symm hi)] at ha
   obtain ⟨mes, clock, m1, m2, m3⟩ := hI.maps i es b' x y ha hpi
   refine ⟨mes, clock, m1, m2, fun k kk e hk => ?_⟩
   obtain ⟨me, q1, q2, q3⟩ := m3 k kk e hk
   exact ⟨me, q1, RP.mono hrd _ _ q2, RV.mono hE e _ q3⟩
 · intro i lo b' x y ha hpi
   have hi : i ≠ id := by
    rintro rfl
    rw [List.getElem?_set_self hlt] at ha
    cases ha
   rw [List.getElem?_set_ne (Ne.symm hi)] at ha
   obtain ⟨r, m1, m2⟩ := hI.loops i lo b' x y ha hpi
   exact ⟨r, m1, m2.mono hE⟩
 · obtain ⟨q0, q1, q2, q3⟩ := hI.bfok c b0 hcb
   refine ⟨q0, q1, q2, fun o => ?_⟩
   simp only [Gh.know]
   rw [if_neg (fun q => q2 _ _ _ _ hp q.1.symm)]
   exact q3 o
 · have hi : i ≠ id := by
    rintro rfl
    rw [List.getElem?_set_self hlt] at ha
    cases ha
   rw [List.getElem?_set_ne (Ne.symm hi)] at ha
   have hpi' : g.ph i = some (b', x, y) := hpi
   obtain ⟨q1, q2, q3⟩ := hI.blds i s b' x y ha hpi'
   refine ⟨q1, fun o => ?_, fun t ht => (q3 t ht).keep rfl (fun _ _ => rfl) fun _ h => h⟩
   simp only [Gh.know]
   rw [if_neg (fun q => by
    obtain ⟨rfl, _⟩ := q
    exact hi (hI.inj i id _ _ _ _ _ hpi' hp))]
   exact q2 o
 · have hne : i ≠ id := fun e => by
    subst e
    rw [(hI.pend i hpend).1] at hp
    cases hp
   exact List.getElem?_set_ne (Ne.symm hne)
 · by_cases hi : i = id
   · subst hi
     rw [ho] at h; cases h
     exact ⟨_, List.getElem?_set_self hlt, rfl, rfl, rfl, rfl⟩
   · exact ⟨a, by rw [List.getElem?_set_ne (Ne.symm hi)]; exact h, rfl, rfl, rfl, rfl⟩
end Dk
namespace Dk
open Go Go.RowKit
variable [Globs] [SiteRel] {P : Program} {B : Nat} {w0 w : World}
theorem RP.notAgg {rd : Nat → Nat → Option Value} {c : PD} {v : Value} (h : RP rd c v) : c.cells = [c] := by
 cases c <;> first | rfl | (simp [RP] at h)
theorem RVss_of {g : Gh} {os : List Obj} : ∀ {els : List (List EV)} {uss : List (List Value)}, els.length = uss.length → (∀ (i : Nat) (el : List EV) (us : List Value), els[i]? = some el → uss[i]? = some us → RVs g os el us) → RVss g os els uss
 | [], [], _, _ => rfl
 | [], _ :: _, h, _ => by simp at h
 | _ :: _, [], h, _ => by simp at h
 | e :: r, u :: us, h, k => ⟨u, us, rfl, k 0 e u rfl rfl, RVss_of (by simpa using h) fun i el v h1 h2 => k (i + 1) el v (by simpa using h1) (by simpa using h2)⟩
theorem mark_none {g : Gh} {os : List Obj} (hI : Inv B w0 g os w) {id : Nat} {ar : Arr} (ho : os[id]? = some (.cells ar)) (hp : g.ph id = none) (hn : ¬ g.pend id) (f : Nat) : Shared B w0 w g os g (os.set id (.cells { ar with frz := f })) := by
 have hlt := (List.getElem?_eq_some_iff.1 ho).1
 have hE : Ext g os g (os.set id (.cells { ar with frz := f })) := by
  refine ⟨fun _ _ _ h => h, fun i a h => ?_, fun i es h => ?_, fun i es h => ?_, fun _ _ h => h, fun i es h => ?_⟩
  · by_cases hi : i = id
    · subst hi
      rw [ho] at h; cases h
      exact ⟨{ ar with frz := f }, List.getElem?_set_self hlt, Nat.le_refl _, fun _ => ⟨rfl, fun y hy => hy⟩⟩
    · exact ⟨a, by rw [List.getElem?_set_ne (Ne.symm hi)]; exact h, Nat.le_refl _, fun _ => ⟨rfl, fun y hy => hy⟩⟩
  · have hi : i ≠ id := by rintro rfl; rw [ho] at h; cases h
    exact ⟨es, by rw [List.getElem?_set_ne (Ne.symm hi)]; exact h, fun y hy => hy⟩
  · have hi : i ≠ id := by rintro rfl; rw [ho] at h; cases h
    exact ⟨es, by rw [List.getElem?_set_ne (Ne.symm hi)]; exact h, fun y hy => hy⟩
  · have hi : i ≠ id := by rintro rfl; rw [ho] at h; cases h
    exact ⟨es, by rw [List.getElem?_set_ne (Ne.symm hi)]; exact h, fun y hy => hy⟩
 refine ⟨⟨fun i hi => ⟨(hI.pend i hi).1, by simpa using (hI.pend i hi).2⟩, hI.low, hI.base, hI.rdok, fun i x hx => by simpa using hI.dom i x hx, hI.inj, hI.high, ?_, ?_, ?_, hI.defs, hI.gl.mono hE.rd, hI.bfok, fun i s b x y ha hpi => ?_⟩, hE, fun lim => ⟨fun i _ => ⟨fun hpend => ⟨hpend, List.getElem?_set_ne (fun e => hn (by rw [e]; exact hpend))⟩, fun _ h => h⟩, fun _ h => h⟩, ⟨by simp, fun i a h => ?_⟩, rfl, rfl⟩
 · intro i a b x y ha hpi
   have hi : i ≠ id := by rintro rfl; rw [hp] at hpi; cases hpi
   rw [List.getElem?_set_ne (Ne.symm hi)] at ha
   obtain ⟨k1, k2, k3, arr', T', k4, k5, k6⟩ := hI.cells i a b x y ha hpi
   refine ⟨k1, k2, k3, arr', T', k4, k5, fun k el hk => ?_⟩
   obtain ⟨e1, e2⟩ := k6 k el hk
   refine ⟨e1, fun j e hj => ?_⟩
   obtain ⟨v, q1, q2, q3⟩ := e2 j e hj
   exact ⟨v, q1, q2, RV.mono hE e v q3⟩
 · intro i es b x y ha hpi
   have hi : i ≠ id := by rintro rfl; rw [hp] at hpi; cases hpi
   rw [List.getElem?_set_ne (Ne.symm hi)] at ha
   obtain ⟨mes, clock, m1, m2, m3⟩ := hI.maps i es b x y ha hpi
   refine ⟨mes, clock, m1, m2, fun k kk e hk => ?_⟩
   obtain ⟨me, q1, q2, q3⟩ := m3 k kk e hk
   exact ⟨me, q1, q2, RV.mono hE e _ q3⟩
 · intro i lo b x y ha hpi
   have hi : i ≠ id := by rintro rfl; rw [hp] at hpi; cases hpi
   rw [List.getElem?_set_ne (Ne.symm hi)] at ha
   obtain ⟨r, m1, m2⟩ := hI.loops i lo b x y ha hpi
   exact ⟨r, m1, m2.mono hE⟩
 · have hi : i ≠ id := by rintro rfl; rw [hp] at hpi; cases hpi
   rw [List.getElem?_set_ne (Ne.symm hi)] at ha
   exact hI.blds i s b x y ha hpi
 · by_cases hi : i = id
   · subst hi
     rw [ho] at h; cases h
     exact ⟨_, List.getElem?_set_self hlt, rfl, rfl, rfl, rfl⟩
   · exact ⟨a, by rw [List.getElem?_set_ne (Ne.symm hi)]; exact h, rfl, rfl, rfl, rfl⟩
set_option maxHeartbeats 4000000 in
mutual
theorem shareC_ok : ∀ (lim n : Nat) (e : EV) (os : List Obj) (x : PD) (os' : List Obj), shareC lim n e os = some (x, os') → ∀ (g : Gh), Inv B w0 g os w → ∀ v, RV g os e v →
 ∃ g', Shared B w0 w g os g' os' ∧ RP g'.rd x v
 | lim, n, .p x, os, x', os', h, g, hI, v, hv => by
  simp [shareC] at h
  obtain ⟨rfl, rfl⟩ := h
  exact ⟨g, Shared.refl hI, hv.list_cases⟩
 | lim, n, .full xs, os, x', os', h, g, hI, v, hv => by
  simp [shareC] at h
  obtain ⟨rfl, rfl⟩ := h
  simp only [RV] at hv
  exact ⟨g, Shared.refl hI, hv.1⟩
 | lim, n + 1, .arr id gn sz off len f, os, x', os', h, g, hI, v, hv => by
  simp only [shareC] at h
  split at h
  · rename_i ar ho
    split at h
    · rename_i hc
      obtain ⟨hgen, hsz, hle, hlim⟩ := hc
      split at h
      · rename_i ps os1 hels
        split at h
        · rename_i ar1 ho1
          simp only [Option.some.injEq, Prod.mk.injEq] at h
          obtain ⟨rfl, rfl⟩ := h
          have hv' := hv
          simp only [RV] at hv'
          obtain ⟨⟨hpos, hnp⟩, a, cap, ar', rfl, hlc, ho', hg', hq, hp⟩ := hv'
          rw [ho] at ho'; cases ho'
          subst hgen hsz
          cases hph : g.ph id with
          | none =>
           have hcap : ¬ 0 < cap := fun q => by
            obtain ⟨b, o0, _, q2⟩ := hp q
            obtain ⟨base, tot, q3, _⟩ := q2 rfl
            rw [hph] at q3; cases q3
           have hlen : len = 0 := by omega
           subst hlen
           simp only [Nat.add_zero, List.take_zero] at hels hle
           simp [shareEls] at hels
           obtain ⟨rfl, rfl⟩ := hels
           rw [ho] at ho1; cases ho1
           refine ⟨g, mark_none hI ho hph hnp _, ?_⟩
           simp only [RP]
           exact ⟨a, cap, rfl, Nat.zero_le _, .inl trivial⟩
          | some x =>
           obtain ⟨b, base, tot⟩ := x
           obtain ⟨c1, c2, c3, arr, T, c4, c5, c6⟩ := hI.cells id ar b base tot ho hph
           have hcell : ∀ o, w.cell? ⟨b, o, none⟩ = arr[o]? := fun o => cell_of_row w b o arr T (0, 0) c4
           let uss : List (List Value) := (List.range len).map fun i => (List.range ar.sz).map fun j => arr.getD (base + (off + i) * ar.sz + j) undef
           have hels2 : RVss g os ((ar.els.drop off).take len) uss := by
            refine RVss_of (by simp [uss]; omega) fun i el us h1 h2 => ?_
            have hil : i < len := by
             have := (List.getElem?_eq_some_iff.1 h1).1
             simp at this; omega
            rw [List.getElem?_take, if_pos hil, List.getElem?_drop] at h1
            simp only [uss, List.getElem?_map, List.getElem?_range hil, Option.map_some, Option.some.injEq] at h2
            subst h2
            obtain ⟨e1, e2⟩ := c6 (off + i) el h1
            refine RVs_get.2 ⟨by simp [e1], fun j e hj => ?_⟩
            have hjl : j < ar.sz := by rw [← e1]; exact (List.getElem?_eq_some_iff.1 hj).1
            obtain ⟨u, hu, _, hr⟩ := e2 j e hj
            refine ⟨u, ?_, hr⟩
            simp only [List.getElem?_map, List.getElem?_range hjl, Option.map_some, Array.getD_eq_getD_getElem?, hu, Option.getD_some]
           obtain ⟨g1, hS1, hps⟩ := shareEls_ok lim n ar.ag _ os ps os1 hels g hI uss hels2
           obtain ⟨ar1', ho1', m1, m2, m3, m4⟩ := hS1.marked.2 id ar ho
           rw [ho1] at ho1'; cases ho1'
           have hph1 : g1.ph id = some (b, base, tot) := by rw [hS1.ph]; exact hph
           have hK := know_ok hS1.inv ho1 hph1 (off := off) (len := len) (by rw [m4]; exact hle)
           refine ⟨_, hS1.trans hK, ?_⟩
           obtain ⟨hpl, hpg⟩ := RPss_get hps
           have hpsl : ps.length = len := by rw [hpl]; simp [uss]
           simp only [RP]
           refine ⟨a, cap, by rw [hpsl], by rw [hpsl]; exact hlc, ?_⟩
           by_cases hlen : len = 0
           · exact .inl (List.eq_nil_of_length_eq_zero (by omega))
           · obtain ⟨b', o0, ha, hq2⟩ := hp (by omega)
             obtain ⟨base', tot', hph', ho0, htot⟩ := hq2 rfl
             rw [hph] at hph'; cases hph'
             refine .inr ⟨b, o0, ar.sz, ha, hpos, RPl_get.2 fun i x hx => ?_⟩
             have hil : i < len := by rw [← hpsl]; exact (List.getElem?_eq_some_iff.1 hx).1
             obtain ⟨us, hus, hr⟩ := hpg i x hx
             simp only [uss, List.getElem?_map, List.getElem?_range hil, Option.map_some, Option.some.injEq] at hus
             subst hus
             obtain ⟨hxl, hxg⟩ := RPs_get hr
             simp only [List.length_map, List.length_range] at hxl
             refine ⟨hxl, RPcs_get.2 fun j c hj => ?_⟩
             have hjl : j < ar.sz := by rw [← hxl]; exact (List.getElem?_eq_some_iff.1 hj).1
             obtain ⟨u, hu, hrc⟩ := hxg j c hj
             simp only [List.getElem?_map, List.getElem?_range hjl, Option.map_some, Option.some.injEq] at hu
             have hadd : o0 + i * ar.sz + j = base + (off + i) * ar.sz + j := by rw [ho0, Nat.add_mul]; omega
             have hin : base + (off + i) * ar.sz + j < arr.size := by
              have e1 : (off + i) * ar.sz + ar.sz ≤ tot * ar.sz := by
               rw [show (off + i) * ar.sz + ar.sz = (off + i + 1) * ar.sz by rw [Nat.add_mul (off + i)]; omega]
               exact Nat.mul_le_mul_right _ (by omega)
              omega
             refine ⟨u, ?_, RP.mono hK.ext.rd c u hrc⟩
             simp only [Gh.know, m2]
             have hlo : base + off * ar.sz ≤ o0 + i * ar.sz + j := by omega
             have hhi : o0 + i * ar.sz + j < base + (off + len) * ar.sz := by
              have e1 : (off + i) * ar.sz + ar.sz ≤ (off + len) * ar.sz := by
               rw [show (off + i) * ar.sz + ar.sz = (off + i + 1) * ar.sz by rw [Nat.add_mul (off + i)]; omega]
               exact Nat.mul_le_mul_right _ (by omega)
              omega
             rw [if_pos ⟨trivial, hlo, hhi⟩, hadd, hcell, ← hu]
             simp [Array.getD_eq_getD_getElem?, Array.getElem?_eq_getElem hin]
        · cases h
      · cases h
    · cases h
  · cases h
 | lim, 0, .arr .., os, x', os', h, g, hI, v, hv => by simp [shareC] at h
 | lim, n, .ptr .., os, x', os', h, g, hI, v, hv => by simp [shareC] at h
 | lim, n, .sub .., os, x', os', h, g, hI, v, hv => by simp [shareC] at h
 | lim, n, .nilp, os, x', os', h, g, hI, v, hv => by simp [shareC] at h
 | lim, n, .cp .., os, x', os', h, g, hI, v, hv => by simp [shareC] at h
 | lim, n, .fn .., os, x', os', h, g, hI, v, hv => by simp [shareC] at h
 | lim, n, .nilf, os, x', os', h, g, hI, v, hv => by simp [shareC] at h
 | lim, n, .map _, os, x', os', h, g, hI, v, hv => by simp [shareC] at h
 | lim, n, .nilmap, os, x', os', h, g, hI, v, hv => by simp [shareC] at h
 | lim, n, .bld _, os, x', os', h, g, hI, v, hv => by simp [shareC] at h
 | lim, n, .yld _, os, x', os', h, g, hI, v, hv => by simp [shareC] at h
 | lim, n, .iface .., os, x', os', h, g, hI, v, hv => by simp [shareC] at h
 | lim, n, .nili, os, x', os', h, g, hI, v, hv => by simp [shareC] at h
 | lim, n, .agg _, os, x', os', h, g, hI, v, hv => by simp [shareC] at h
 | lim, n, .tup _, os, x', os', h, g, hI, v, hv => by simp [shareC] at h
 | lim, n, .junk, os, x', os', h, g, hI, v, hv => by simp [shareC] at h
theorem shareEls_ok : ∀ (lim n : Nat) (ag : Bool) (els : List (List EV)) (os : List Obj) (xs : List PD) (os' : List Obj), shareEls lim n ag els os = some (xs, os') → ∀ (g : Gh), Inv B w0 g os w → ∀ uss, RVss g os els uss →
 ∃ g', Shared B w0 w g os g' os' ∧ RPss g'.rd xs uss
 | lim, n, ag, [], os, xs, os', h, g, hI, uss, hu => by
  simp [shareEls] at h
  obtain ⟨rfl, rfl⟩ := h
  exact ⟨g, Shared.refl hI, hu⟩
 | lim, n, ag, el :: r, os, xs, os', h, g, hI, uss, hu => by
  obtain ⟨us, uss', rfl, hu1, hu2⟩ := hu
  simp only [shareEls] at h
  split at h
  · rename_i cs os1 hcs
    obtain ⟨g1, hS1, hp1⟩ := shareCs_ok lim n el os cs os1 hcs g hI us hu1
    split at h
    · rename_i x hx
      split at h
      · rename_i xs' os2 hr
        simp only [Option.some.injEq, Prod.mk.injEq] at h
        obtain ⟨rfl, rfl⟩ := h
        obtain ⟨g2, hS2, hp2⟩ := shareEls_ok lim n ag r os1 xs' os2 hr g1 hS1.inv uss' (RVss.mono hS1.ext r uss' hu2)
        refine ⟨g2, hS1.trans hS2, us, uss', rfl, ?_, hp2⟩
        have hcells : x.cells = cs := by
         cases ag with
         | true => simp at hx; subst hx; rfl
         | false =>
          simp only [Bool.false_eq_true, if_false] at hx
          split at hx
          · rename_i c
            cases hx
            obtain ⟨v, ws, _, q, _⟩ := hp1
            exact q.notAgg
          · cases hx
        rw [hcells]
        exact RPs.mono hS2.ext.rd cs us hp1
      · cases h
    · cases h
  · cases h
theorem shareCs_ok : ∀ (lim n : Nat) (es : List EV) (os : List Obj) (cs : List PD) (os' : List Obj), shareCs lim n es os = some (cs, os') → ∀ (g : Gh), Inv B w0 g os w → ∀ us, RVs g os es us →
 ∃ g', Shared B w0 w g os g' os' ∧ RPs g'.rd cs us
 | lim, n, [], os, cs, os', h, g, hI, us, hu => by
  simp [shareCs] at h
  obtain ⟨rfl, rfl⟩ := h
  exact ⟨g, Shared.refl hI, by simp only [RVs] at hu; exact hu⟩
 | lim, n, e :: r, os, cs, os', h, g, hI, us, hu => by
  simp only [RVs] at hu
  obtain ⟨u, us', rfl, hu1, hu2⟩ := hu
  simp only [shareCs] at h
  split at h
  · rename_i x os1 hx
    obtain ⟨g1, hS1, hp1⟩ := shareC_ok lim n e os x os1 hx g hI u hu1
    split at h
    · rename_i xs os2 hr
      simp only [Option.some.injEq, Prod.mk.injEq] at h
      obtain ⟨rfl, rfl⟩ := h
      obtain ⟨g2, hS2, hp2⟩ := shareCs_ok lim n r os1 xs os2 hr g1 hS1.inv us' (RVs.mono hS1.ext r us' hu2)
      exact ⟨g2, hS1.trans hS2, u, us', rfl, RP.mono hS2.ext.rd x u hp1, hp2⟩
    · cases h
  · cases h
end
end Dk
namespace Dk
open Go Go.RowKit
variable [Globs] [SiteRel] {P : Program} {B : Nat} {w0 w : World}
omit [Globs] [SiteRel] in
theorem shareC_live {lim n id gn sz off len : Nat} {f : Bool} {os : List Obj} {x : PD × List Obj} (h : shareC lim n (.arr id gn sz off len f) os = some x) : ∃ ar, os[id]? = some (.cells ar) ∧ ar.gen = gn := by
 cases n with
 | zero => simp [shareC] at h
 | succ n =>
  simp only [shareC] at h
  split at h
  · rename_i a ho
    split at h
    · rename_i hc
      exact ⟨a, ho, hc.1⟩
    · cases h
  · cases h
mutual
theorem shareV_ok : ∀ (lim : Nat) (e : EV) (os : List Obj) (r : EV) (os' : List Obj), shareV lim e os = some (r, os') → ∀ (g : Gh), Inv B w0 g os w → ∀ v, RV g os e v → ∃ g', Shared B w0 w g os g' os' ∧ RV g' os' r v
 | lim, .arr id gn sz off len f, os, r, os', h, g, hI, v, hv => by
  simp only [shareV] at h
  cases hs : shareC lim 8 (.arr id gn sz off len f) os with
  | none => simp [hs] at h
  | some x =>
   simp [hs] at h
   obtain ⟨rfl, rfl⟩ := h
   obtain ⟨g', hS, hr⟩ := shareC_ok lim 8 _ os x.1 x.2 (by rw [hs]) g hI v hv
   refine ⟨g', hS, ?_⟩
   have hp : RV g' x.2 (.p x.1) v := by simp only [RV]; exact hr
   cases f with
   | false => exact hp
   | true =>
    cases hx : x.1 with
    | list xs =>
     rw [hx] at hr hp
     obtain ⟨ar, ha, hgn⟩ := shareC_live hs
     simp only [RV] at hv
     obtain ⟨_, a, cap, ar', rfl, _, ho, _, hf, _⟩ := hv
     rw [ha] at ho
     cases ho
     have hc := (hf hgn).2 (by simp)
     show RV g' x.2 (.full xs) _
     simp only [RV]
     refine ⟨hr, a, ?_⟩
     simp only [RP] at hr
     obtain ⟨a', cap', he, _⟩ := hr
     simp only [Value.slice.injEq] at he
     rw [hc, ← he.2.1]
    | _ => rw [hx] at hp; exact hp
 | lim, .full xs, os, r, os', h, g, hI, v, hv => by
  simp [shareV] at h
  obtain ⟨rfl, rfl⟩ := h
  simp only [RV] at hv
  exact ⟨g, Shared.refl hI, by simp only [RV]; exact hv.1⟩
 | lim, .agg cs, os, r, os', h, g, hI, v, hv => by
  simp only [shareV] at h
  cases hs : shareVs lim cs os with
  | none => simp [hs] at h
  | some x =>
   simp [hs] at h
   obtain ⟨rfl, rfl⟩ := h
   simp only [RV] at hv
   obtain ⟨us, rfl, hu⟩ := hv
   obtain ⟨g', hS, hr⟩ := shareVs_ok lim cs os x.1 x.2 (by rw [hs]) g hI us.toList hu
   exact ⟨g', hS, by simp only [RV]; exact ⟨us, rfl, hr⟩⟩
 | lim, .p _, os, r, os', h, g, hI, v, hv => by simp [shareV] at h; obtain ⟨rfl, rfl⟩ := h; exact ⟨g, Shared.refl hI, hv⟩
 | lim, .ptr .., os, r, os', h, g, hI, v, hv => by simp [shareV] at h; obtain ⟨rfl, rfl⟩ := h; exact ⟨g, Shared.refl hI, hv⟩
 | lim, .sub .., os, r, os', h, g, hI, v, hv => by simp [shareV] at h; obtain ⟨rfl, rfl⟩ := h; exact ⟨g, Shared.refl hI, hv⟩
 | lim, .nilp, os, r, os', h, g, hI, v, hv => by simp [shareV] at h; obtain ⟨rfl, rfl⟩ := h; exact ⟨g, Shared.refl hI, hv⟩
 | lim, .cp .., os, r, os', h, g, hI, v, hv => by simp [shareV] at h; obtain ⟨rfl, rfl⟩ := h; exact ⟨g, Shared.refl hI, hv⟩
 | lim, .fn .., os, r, os', h, g, hI, v, hv => by simp [shareV] at h; obtain ⟨rfl, rfl⟩ := h; exact ⟨g, Shared.refl hI, hv⟩
 | lim, .nilf, os, r, os', h, g, hI, v, hv => by simp [shareV] at h; obtain ⟨rfl, rfl⟩ := h; exact ⟨g, Shared.refl hI, hv⟩
 | lim, .map _, os, r, os', h, g, hI, v, hv => by simp [shareV] at h; obtain ⟨rfl, rfl⟩ := h; exact ⟨g, Shared.refl hI, hv⟩
 | lim, .nilmap, os, r, os', h, g, hI, v, hv => by simp [shareV] at h; obtain ⟨rfl, rfl⟩ := h; exact ⟨g, Shared.refl hI, hv⟩
 | lim, .bld _, os, r, os', h, g, hI, v, hv => by simp [shareV] at h; obtain ⟨rfl, rfl⟩ := h; exact ⟨g, Shared.refl hI, hv⟩
 | lim, .yld _, os, r, os', h, g, hI, v, hv => by simp [shareV] at h; obtain ⟨rfl, rfl⟩ := h; exact ⟨g, Shared.refl hI, hv⟩
 | lim, .iface .., os, r, os', h, g, hI, v, hv => by simp [shareV] at h; obtain ⟨rfl, rfl⟩ := h; exact ⟨g, Shared.refl hI, hv⟩
 | lim, .nili, os, r, os', h, g, hI, v, hv => by simp [shareV] at h; obtain ⟨rfl, rfl⟩ := h; exact ⟨g, Shared.refl hI, hv⟩
 | lim, .tup _, os, r, os', h, g, hI, v, hv => by simp [shareV] at h; obtain ⟨rfl, rfl⟩ := h; exact ⟨g, Shared.refl hI, hv⟩
 | lim, .junk, os, r, os', h, g, hI, v, hv => by simp [shareV] at h; obtain ⟨rfl, rfl⟩ := h; exact ⟨g, Shared.refl hI, hv⟩
theorem shareVs_ok : ∀ (lim : Nat) (es : List EV) (os : List Obj) (rs : List EV) (os' : List Obj), shareVs lim es os = some (rs, os') → ∀ (g : Gh), Inv B w0 g os w → ∀ us, RVs g os es us → ∃ g', Shared B w0 w g os g' os' ∧ RVs g' os' rs us
 | lim, [], os, rs, os', h, g, hI, us, hu => by
  simp [shareVs] at h
  obtain ⟨rfl, rfl⟩ := h
  exact ⟨g, Shared.refl hI, hu⟩
 | lim, e :: r, os, rs, os', h, g, hI, us, hu => by
  simp only [RVs] at hu
  obtain ⟨u, us', rfl, hu1, hu2⟩ := hu
  simp only [shareVs] at h
  split at h
  · rename_i x os1 hx
    obtain ⟨g1, hS1, hp1⟩ := shareV_ok lim e os x os1 hx g hI u hu1
    split at h
    · rename_i xs os2 hr
      simp only [Option.some.injEq, Prod.mk.injEq] at h
      obtain ⟨rfl, rfl⟩ := h
      obtain ⟨g2, hS2, hp2⟩ := shareVs_ok lim r os1 xs os2 hr g1 hS1.inv us' (RVs.mono hS1.ext r us' hu2)
      refine ⟨g2, hS1.trans hS2, ?_⟩
      simp only [RVs]
      exact ⟨u, us', rfl, RV.mono hS2.ext x u hp1, hp2⟩
    · cases h
  · cases h
end
def compRes (P : Program) : List ResultVar → Option (List Res)
 | [] => some []
 | .tmp t :: r => match compRes P r with
  | some rs => some (.tmp t :: rs)
  | none => none
 | .cell a t :: r => match tyI P t, compRes P r with
  | some (ag, n), some rs => some (.cell a ag n :: rs)
  | _, _ => none
def compFn (P : Program) (dr : DrawFn) (keeps : List (List Nat)) (share loc : Bool) (fn : Func) : Option DFn :=
 match fn.body with
 | some c => match compCode P fn.ntmps dr c keeps, compRes P fn.results.toList with
  | some (d, []), some rs => if fn.params.size + fn.nfree ≤ fn.ntmps then some ⟨fn.params.size + fn.nfree, d, rs, share, loc, false⟩ else none
  | _, _ => none
 | none => none
theorem args0_get : ∀ (l : List EV) (k t : Nat), Fr.get (args0 k l) t = if k ≤ t then (l[t - k]?).getD .junk else .junk
 | [], k, t => by simp [args0, Fr.get]
 | v :: r, k, t => by
  simp only [args0, Fr.get]
  by_cases h : k = t
  · subst h; simp
  · rw [if_neg h, args0_get r (k + 1) t]
    by_cases h2 : k ≤ t
    · have h3 : k + 1 ≤ t := by omega
      rw [if_pos h2, if_pos h3, show t - k = (t - (k + 1)) + 1 by omega]
      rfl
    · rw [if_neg h2, if_neg (by omega)]
theorem args_fr {g : Gh} {os : List Obj} {args : List EV} {vs : List Value} (h : RVs g os args vs) (n : Nat) : FrOK g os (args0 0 args) { tmps := vs.toArray ++ Array.replicate n undef, defers := [] } := by
 intro t _
 rw [args0_get]
 simp only [Nat.zero_le, if_true, Nat.sub_zero]
 cases ha : args[t]? with
 | none => trivial
 | some e =>
  obtain ⟨hl, hg⟩ := RVs_get.1 h
  obtain ⟨v, hv, hr⟩ := hg t e ha
  have hlt := (List.getElem?_eq_some_iff.1 hv).1
  simp only [Option.getD_some, Act.eval, Array.getD_eq_getD_getElem?]
  rw [Array.getElem?_append_left (by simpa using hlt)]
  simp only [List.getElem?_toArray, hv, Option.getD_some]
  exact hr
theorem loadAt_addr {t : TypeId} {v u : Value} {w' : World} (h : (Instr.loadAt t v).run P w = .ok u w') : ∃ a, v = .pointer (some a) ∧ (loadVar t a).run P w = .ok u w' := by
 have stop : ∀ (s : String), (Instr.loadAt t v) = (stuck s : Sem Addr).bind (fun a => loadVar t a) → False := by
  intro s e
  rw [e] at h
  simp [stuck, Sem.bind, Sem.run] at h
 cases v with
 | pointer a =>
  cases a with
  | none => exact (stop _ rfl).elim
  | some a =>
   refine ⟨a, rfl, ?_⟩
   simp only [Instr.loadAt, Instr.sureAddr, Sem.run_bind, Sem.run_pure, Result.andThen_ok] at h
   exact h
 | _ => exact (stop _ rfl).elim
def readRes (tmps : Array Value) : ResultVar → Sem Value
 | .tmp t => pure (tmps.getD t undef)
 | .cell a t => do loadVar t (← asAddr (tmps.getD a undef))
theorem readRes_cell {tmps : Array Value} {x : Tmp} {t : TypeId} {a : Addr} {u : Value} (h : tmps.getD x undef = .pointer (some a)) (h2 : (loadVar t a).run P w = .ok u w) : (readRes tmps (.cell x t)).run P w = .ok u w := by
 simp only [readRes, h, asAddr, Sem.run_bind, Sem.run_pure, Result.andThen_ok, h2]
theorem results_eq (fn : Func) (tmps : Array Value) : results fn tmps = (do let vs ← fn.results.mapM (readRes tmps); pure (if h : vs.size = 1 then vs[0] else .tuple vs)) := by
 have e : (fun r => match r with | .tmp t => pure (tmps.getD t undef) | .cell a t => do loadVar t (← asAddr (tmps.getD a undef)) : ResultVar → Sem Value) = readRes tmps := by
  funext r; cases r <;> rfl
 rw [← e]
 rfl
theorem res_ok {g : Gh} {os : List Obj} (hI : Inv B w0 g os w) {fr : Fr} {a : Act} (hf : FrOK g os fr a) {lim : Nat} : ∀ (l : List ResultVar) (rs : List Res) (vs : List EV), compRes P l = some rs → resultsOf fr ⟨os, lim⟩ rs = some vs →
 ∃ us : List Value, (l.mapM (readRes a.tmps)).run P w = .ok us w ∧ RVs g os vs us
 | [], rs, vs, hc, hr => by
  simp [compRes] at hc; subst hc
  simp [resultsOf] at hr; subst hr
  exact ⟨[], by simp, by simp [RVs]⟩
 | .tmp t :: l, rs, vs, hc, hr => by
  simp only [compRes] at hc
  split at hc
  · rename_i rs' hc'
    cases hc
    simp only [resultsOf, resultOf] at hr
    split at hr
    · rename_i vs' hr'
      cases hr
      obtain ⟨us, h1, h2⟩ := res_ok hI hf l rs' vs' hc' hr'
      refine ⟨a.tmps.getD t undef :: us, ?_, ?_⟩
      · simp only [List.mapM_cons, readRes, Sem.run_bind, Sem.run_pure, Result.andThen_ok, h1]
      · simp only [RVs]
        exact ⟨_, _, rfl, hf t trivial, h2⟩
    · cases hr
  · cases hc
 | .cell x t :: l, rs, vs, hc, hr => by
  simp only [compRes] at hc
  split at hc
  · rename_i ag n rs' hT hc'
    cases hc
    simp only [resultsOf, resultOf] at hr
    split at hr
    · rename_i v hv
      split at hr
      · rename_i vs' hr'
        cases hr
        obtain ⟨us, h1, h2⟩ := res_ok hI hf l rs' vs' hc' hr'
        obtain ⟨u, hu, hru⟩ := load_sound (P := P) hI (tyI_ok hT) (hf x trivial) hv
        refine ⟨u :: us, ?_, ?_⟩
        · obtain ⟨ad, ha, hld⟩ := loadAt_addr hu
          have ha' : a.tmps.getD x undef = .pointer (some ad) := ha
          simp only [List.mapM_cons, Sem.run_bind, readRes_cell ha' hld, Sem.run_pure, Result.andThen_ok, h1]
        · simp only [RVs]
          exact ⟨_, _, rfl, hru, h2⟩
      · cases hr
    · cases hr
  · cases hc
def oneVal : List Value → Value
 | [u] => u
 | us => .tuple us.toArray
theorem results_ok {g : Gh} {os : List Obj} (hI : Inv B w0 g os w) {fr : Fr} {a : Act} (hf : FrOK g os fr a) {fn : Func} {lim : Nat} {rs : List Res} {vs : List EV} (hc : compRes P fn.results.toList = some rs) (hr : resultsOf fr ⟨os, lim⟩ rs = some vs) :
 ∃ us : List Value, (results fn a.tmps).run P w = .ok (oneVal us) w ∧ RVs g os vs us := by
 obtain ⟨us, h1, h2⟩ := res_ok (P := P) hI hf fn.results.toList rs vs hc hr
 refine ⟨us, ?_, h2⟩
 rw [results_eq, Array.mapM_eq_mapM_toList]
 have e1 : (List.toArray <$> List.mapM (readRes a.tmps) fn.results.toList : Sem (Array Value)).run P w = .ok us.toArray w := by
  simp [h1]
 simp only [Sem.run_bind, e1, Result.andThen_ok, Sem.run_pure]
 cases us with
 | nil => simp [oneVal]
 | cons u r => cases r <;> simp [oneVal]
theorem compFn_some {dr : DrawFn} {keeps : List (List Nat)} {share loc : Bool} {fn : Func} {d : DFn} (hc : compFn P dr keeps share loc fn = some d) :
 ∃ c, fn.body = some c ∧ compCode P fn.ntmps dr c keeps = some (d.body, []) ∧ compRes P fn.results.toList = some d.res ∧ d.np ≤ fn.ntmps ∧ d.share = share ∧ d.loc = loc := by
 unfold compFn at hc
 split at hc
 · rename_i c hb
   split at hc
   · rename_i dc rs hcode hres
     split at hc
     · rename_i hnp
       cases hc
       exact ⟨c, hb, hcode, hres, hnp, rfl, rfl⟩
     · cases hc
   · cases hc
 · cases hc
theorem one_ok {g : Gh} {os : List Obj} {rs : List EV} {us : List Value} (h : RVs g os rs us) : RV g os (oneEV rs) (oneVal us) := by
 obtain ⟨hl, hg⟩ := RVs_get.1 h
 have htup : RV g os (.tup rs) (.tuple us.toArray) := by
  simp only [RV]
  exact ⟨us.toArray, rfl, by simpa using h⟩
 cases rs with
 | nil => cases us with
  | nil => exact htup
  | cons u r => simp at hl
 | cons v r => cases r with
  | nil => cases us with
   | nil => simp at hl
   | cons u r => cases r with
    | nil =>
     obtain ⟨u', h1, h2⟩ := hg 0 v rfl
     cases h1
     exact h2
    | cons u2 r => simp at hl
  | cons v2 r => cases us with
   | nil => simp at hl
   | cons u r => cases r with
    | nil => simp at hl
    | cons u2 r => exact htup
theorem body_core {C : CallFn} (hC : CallOK P C) {dr : DrawFn} {f : FuncId} {fn : Func} (hf : P.funcs[f]? = some fn) (hD : DrawOK P C fn.ntmps dr) (hT : SiteOK P fn.ntmps dr) {keeps : List (List Nat)} {share loc : Bool} {d : DFn} (hc : compFn P dr keeps share loc fn = some d)
 {g : Gh} {os : List Obj} (hI : Inv B w0 g os w) {args : List EV} {vs : List Value} (hv : RVs g os args vs) (hlen : args.length = d.np) {L : Nat} {e : Ex} {fr1 : Fr} {h1 : Hp} (hex : exec C d.body (args0 0 args, ⟨os, L⟩) = some (e, fr1, h1)) (hne : ∀ i, e ≠ .exit i)
 {rvs rvs2 : List EV} {os2 : List Obj} (hrv : resultsOf fr1 h1 d.res = some rvs) (hsh : (if d.share then shareVs h1.lim rvs h1.objs else some (rvs, h1.objs)) = some (rvs2, os2)) :
 Calls P f vs.toArray w fun
  | .returned v, w' => Went L B w0 g os os2 (oneEV rvs2) v w'
  | _, _ => False := by
 obtain ⟨c, hb, hcode, hres, hnp, _, _⟩ := compFn_some hc
 obtain ⟨os1, lim1⟩ := h1
 have hl := (RVs_get.1 hv).1
 have hS : Stands ([], false) L B w0 fn.ntmps Fence.wide g os g os (args0 0 args) { tmps := vs.toArray ++ Array.replicate (fn.ntmps - vs.toArray.size) undef, defers := [] } w :=
  ⟨hI, Ext.refl g os, Kept.refl L g os, args_fr hv _, by simp; omega, MarksD.nil ([], false) g g, fun l hl => by cases hl⟩
 refine callsIn_wide.1 (callsIn_of_wp_marks (F := Fence.wide) (n := 0) hf hb trivial (code_wp hC hD hT (.inl rfl) c keeps [] d.body hcode (fun h => (by cases h)) g os _ _ w hS e fr1 ⟨os1, lim1⟩ hex _ fun g1 a1 w1 hS1 _ => ?_))
 have fin : LeavesInM Fence.wide 0 P fn a1.tmps (fun | .returned v, w' => Went L B w0 g os os2 (oneEV rvs2) v w' | _, _ => False) a1.defers .returning w1 := by
  obtain ⟨ms, m0, ⟨bs, m1, m2, m3⟩, _⟩ := hS1.marks
  rw [m0, List.append_nil, m1]
  refine leaves_ok bs g1 w1 hS1.inv m2 (fun b hb => (m3 b hb).1) fun df w2 hI2 hdf => ?_
  have hE2 := Ext.defs g1 os1 df
  have hK2 : Kept L g os (g1.defs df) os1 := ⟨hS1.kept.old, fun b hb => hdf b (hS1.kept.df b hb) fun hbs => (m3 b hbs).2 hb⟩
  obtain ⟨us, hru, hrs⟩ := results_ok (P := P) hI2 (hS1.fr.mono hE2) hres hrv
  refine ⟨_, hru, ?_⟩
  split at hsh
  · obtain ⟨g2, hS2, hr2⟩ := shareVs_ok lim1 rvs os1 rvs2 os2 hsh _ hI2 us hrs
    exact ⟨g2, hS2.inv, (hS1.ext.trans hE2).trans hS2.ext, hK2.trans (hS1.ext.trans hE2) (hS2.kept L), one_ok hr2⟩
  · cases hsh
    exact ⟨_, hI2, hS1.ext.trans hE2, hK2, one_ok hrs⟩
 cases e with
 | normal => exact fin
 | ret => exact fin
 | exit i => exact (hne i rfl).elim
end Dk
