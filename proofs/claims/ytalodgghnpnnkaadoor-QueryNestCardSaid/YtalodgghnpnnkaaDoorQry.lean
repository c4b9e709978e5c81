/- Queries as data, and as D's values. -/
import Derived.Test.YtalodgghnpnnkaaDoorP
import Derived.Test.YtalodgghnpnnkaaDoorQk5
set_option linter.unusedVariables false
set_option linter.unusedSimpArgs false
set_option linter.unusedSectionVars false
namespace Dk.M
open Go Dk
structure Pfx (h h' : Hp) : Prop where
 len : h.objs.length ≤ h'.objs.length
 same : ∀ i, i < h.objs.length → h'.objs[i]? = h.objs[i]?
theorem pfx {h h' : Hp} (f : Fwd [] h h') : Pfx h h' := ⟨f.len, fun i hi => f.same i hi (by simp)⟩
theorem Pfx.trans {a b c : Hp} (x : Pfx a b) (y : Pfx b c) : Pfx a c := ⟨Nat.le_trans x.len y.len, fun i hi => (y.same i (Nat.lt_of_lt_of_le hi x.len)).trans (x.same i hi)⟩
theorem Pfx.of {h h0 : Hp} (e : h0.objs = h.objs) : Pfx h h0 := ⟨by rw [e]; exact Nat.le_refl _, fun i _ => by rw [e]⟩
theorem Pfx.refl (h : Hp) : Pfx h h := .of rfl
theorem Pfx.arr {h h' : Hp} (x : Pfx h h') {id g : Nat} {a : Arr} (e : h.arr id g = some a) : h'.arr id g = some a := by
 have hl := arr_lt e
 simpa only [Hp.arr, x.same id hl] using e
structure View (h : Hp) (sz : Nat) (v : EV) (E : List (List EV)) : Prop where
 els : ∀ h', Pfx h h' → elsOf sz v h' = some E
 len : ∀ h', lenOf 0 v h' = some E.length
 cells : v.cells = [v]
 one : EV.one v = true
theorem View.pfx {h h' : Hp} {sz : Nat} {v : EV} {els : List (List EV)} (V : View h sz v els) (p : Pfx h h') : View h' sz v els := ⟨fun h2 q => V.els h2 (p.trans q), V.len, V.cells, V.one⟩
theorem View.full {h : Hp} {sz : Nat} {xs : List PD} (hs : sized sz xs = true) : View h sz (.full xs) (xs.map toEV) := ⟨fun h' _ => by simp [elsOf, hs], fun h' => by simp, rfl, rfl⟩
theorem View.list {h : Hp} {sz : Nat} {xs : List PD} (hs : sized sz xs = true) : View h sz (.p (.list xs)) (xs.map toEV) := ⟨fun h' _ => by simp [elsOf, hs], fun h' => by simp, rfl, rfl⟩
theorem View.arr {h : Hp} {sz id g off len frz : Nat} {ag f : Bool} {E : List (List EV)} (e : h.arr id g = some ⟨g, sz, ag, frz, E⟩) (hl : off + len ≤ E.length) : View h sz (.arr id g sz off len f) ((E.drop off).take len) := by
 refine ⟨fun h' p => ?_, fun h' => ?_, rfl, rfl⟩
 · simp [elsOf, p.arr e, hl]
 · simp; omega
theorem View.own {h : Hp} {sz : Nat} {ag : Bool} {v : EV} {els : List (List EV)} {fp : List Nat} (H : Own h sz ag v els fp) : View h sz v els := by
 cases H with
 | nil => exact .full (xs := []) rfl
 | arr h1 h2 h3 h4 => exact .arr h1 h2
theorem View.eqb {h : Hp} {sz : Nat} {v : EV} {els : List (List EV)} (V : View h sz v els) : EV.eqb v v = true := by
 have e := V.els h (Pfx.refl h)
 unfold elsOf at e
 split at e
 · simp
 · simp
 · simp
 · cases e
theorem View.get {h : Hp} {sz : Nat} {v : EV} {els : List (List EV)} (V : View h sz v els) {i : Nat} {el : List EV} (hi : els[i]? = some el) (hs : el.length = sz) :
 ∃ q, indexAddr sz v (eI i) = some q ∧ ∀ h', Pfx h h' → loadAt true sz q h' = some (.agg el) := by
 obtain ⟨q, q1, q2⟩ := els_get (V.els h (Pfx.refl h)) hi hs .i64
 refine ⟨q, q1, fun h' p => ?_⟩
 obtain ⟨q', p1, p2⟩ := els_get (V.els h' p) hi hs .i64
 rw [q1] at p1
 cases p1
 exact p2
theorem View.get1 {h : Hp} {v : EV} {els : List (List EV)} (V : View h 1 v els) {i : Nat} {e : EV} (hi : els[i]? = some [e]) :
 ∃ q, indexAddr 1 v (eI i) = some q ∧ ∀ h', Pfx h h' → loadAt false 1 q h' = some e := by
 obtain ⟨q, q1, q2⟩ := els_get1 (V.els h (Pfx.refl h)) hi .i64
 refine ⟨q, q1, fun h' p => ?_⟩
 obtain ⟨q', p1, p2⟩ := els_get1 (V.els h' p) hi .i64
 rw [q1] at p1
 cases p1
 exact p2
theorem els_fld {sz : Nat} {v : EV} {h : Hp} {els : List (List EV)} (he : elsOf sz v h = some els) {i : Nat} {el : List EV} (hi : els[i]? = some el) (hs : el.length = sz) {j : Nat} {e : EV} (hj : el[j]? = some e) (ho : EV.one e = true) :
 ∃ q q', indexAddr sz v (eI i) = some q ∧ fldAt j q = some q' ∧ loadAt false 1 q' h = some e := by
 obtain ⟨q, q1, q2⟩ := els_get he hi hs .i64
 have key : ∀ (cells : List EV) (o : Nat), el = (cells.drop o).take sz → o + sz ≤ cells.length → o + j + 1 ≤ cells.length ∧ (cells.drop (o + j)).take 1 = [e] := by
  intro cells o e1 e2
  have hl := (List.getElem?_eq_some_iff.1 hj).1
  have h2 : cells[o + j]? = some e := by
   rw [e1, List.getElem?_take, List.getElem?_drop] at hj
   split at hj
   · exact hj
   · cases hj
  have h3 := (List.getElem?_eq_some_iff.1 h2)
  refine ⟨by omega, ?_⟩
  rw [List.drop_eq_getElem_cons h3.1, h3.2]
  rfl
 have mkf : mk false [e] = some e := by simp [mk, ho]
 unfold loadAt at q2
 split at q2
 · rename_i id g k o
   split at q2
   · rename_i a ha
     split at q2
     · rename_i cells hc
       split at q2
       · rename_i hl
         have hel : el = (cells.drop o).take sz := by simpa [mk] using q2.symm
         obtain ⟨k1, k2⟩ := key cells o hel hl
         exact ⟨_, _, q1, rfl, by simp only [loadAt, ha, hc, if_pos k1, k2, mkf]⟩
       · cases q2
     · cases q2
   · cases q2
 · rename_i cs o
   split at q2
   · rename_i hl
     have hel : el = ((cs.map EV.p).drop o).take sz := by
      have : el = ((cs.drop o).take sz).map EV.p := by simpa [mk] using q2.symm
      rw [this, List.map_take, List.map_drop]
     obtain ⟨k1, k2⟩ := key (cs.map EV.p) o hel (by simpa using hl)
     have k1' : o + j + 1 ≤ cs.length := by simpa using k1
     refine ⟨_, _, q1, rfl, ?_⟩
     simp only [loadAt, if_pos k1']
     have : ((cs.drop (o + j)).take 1).map EV.p = [e] := by rw [List.map_take, List.map_drop]; exact k2
     rw [this, mkf]
   · cases q2
 · cases q2
theorem View.fld {h : Hp} {sz : Nat} {v : EV} {els : List (List EV)} (V : View h sz v els) {i : Nat} {el : List EV} (hi : els[i]? = some el) (hs : el.length = sz) {j : Nat} {e : EV} (hj : el[j]? = some e) (ho : EV.one e = true) :
 ∃ q q', indexAddr sz v (eI i) = some q ∧ fldAt j q = some q' ∧ ∀ h', Pfx h h' → loadAt false 1 q' h' = some e := by
 obtain ⟨q, q', q1, q2, q3⟩ := els_fld (V.els h (Pfx.refl h)) hi hs hj ho
 refine ⟨q, q', q1, q2, fun h' p => ?_⟩
 obtain ⟨r, r', r1, r2, r3⟩ := els_fld (V.els h' p) hi hs hj ho
 rw [q1] at r1
 cases r1
 rw [q2] at r2
 cases r2
 exact r3
structure Elem where
 ty : Int
 v : ByteArray
 (plus not : Bool)
def Elem.cells (e : Elem) : List EV := [eI e.ty, .p (.str e.v), eB e.plus, eB e.not]
structure Code where
 (op n : Int)
 v : ByteArray
 (field pos : Int)
def Code.cells (c : Code) : List EV := [eI c.op, eI c.n, .p (.str c.v), eI c.field, eI c.pos]
structure Cond where
 op : Int
 (l r : List Code)
 (lv rv : EV)
def Cond.cells (c : Cond) : List EV := [eI c.op, c.lv, c.rv]
structure CondV (h : Hp) (c : Cond) : Prop where
 l : View h 5 c.lv (c.l.map Code.cells)
 r : View h 5 c.rv (c.r.map Code.cells)
theorem CondV.pfx {h h' : Hp} {c : Cond} (V : CondV h c) (p : Pfx h h') : CondV h' c := ⟨V.l.pfx p, V.r.pfx p⟩
structure Qry where
 es : List Elem
 cs : List Cond
 w : Int
 k : Bool
structure QryV (h : Hp) (q : Qry) (l : List EV) : Prop where
 ex : ∃ ev cv, l = [ev, cv, eI q.w, eB q.k] ∧ View h 4 ev (q.es.map Elem.cells) ∧ View h 3 cv (q.cs.map Cond.cells) ∧ ∀ c ∈ q.cs, CondV h c
theorem QryV.pfx {h h' : Hp} {q : Qry} {l : List EV} (V : QryV h q l) (p : Pfx h h') : QryV h' q l := by
 obtain ⟨ev, cv, a, b, c, d⟩ := V
 exact ⟨ev, cv, a, b.pfx p, c.pfx p, fun x hx => (d x hx).pfx p⟩
end Dk.M
