/- check.places: a map of names. -/
import Derived.Test.YtnhghaianccncaaDoorPrt
set_option linter.unusedVariables false
set_option linter.unusedSimpArgs false
set_option linter.unusedSectionVars false
namespace Dk.L
open Go Dk
abbrev NM := List (ByteArray × Nat)
def setS (s : ByteArray) (i : Nat) : NM → NM
 | [] => [(s, i)]
 | (x, u) :: r => if s = x then (x, i) :: r else (x, u) :: setS s i r
def findS (s : ByteArray) : NM → Option Nat
 | [] => none
 | (x, u) :: r => if s = x then some u else findS s r
def pl (es : List Elem) : Nat → NM
 | 0 => []
 | i + 1 => match es[i]? with
  | some e => setS e.v i (pl es i)
  | none => pl es i
def ent (m : NM) : List (PD × EV) := m.map fun p => (.str p.1, eI p.2)
theorem eqb_str (s t : ByteArray) : PD.eqb (.str s) (.str t) = decide (s = t) := by simp [PD.eqb]
theorem ent_set (s : ByteArray) (i : Nat) : ∀ m : NM, setKey (.str s) (eI i) (ent m) = ent (setS s i m)
 | [] => rfl
 | (x, u) :: r => by
  simp only [ent, List.map_cons, setKey, eqb_str, setS]
  by_cases h : s = x
  · simp [h]
  · simp only [h, decide_false, Bool.false_eq_true, if_false, List.map_cons]
    exact congrArg _ (ent_set s i r)
theorem ent_find (s : ByteArray) : ∀ m : NM, findKey (.str s) (ent m) = (findS s m).map fun i => eI i
 | [] => rfl
 | (x, u) :: r => by
  simp only [ent, List.map_cons, findKey, eqb_str, findS]
  by_cases h : s = x
  · simp [h]
  · simp only [h, decide_false, Bool.false_eq_true, if_false]
    exact ent_find s r
theorem ent_alike (s : ByteArray) (m : NM) : (ent m).all (fun e => PD.alike .str (.str s) e.1) = true := by simp [ent, PD.alike]
theorem ent_get {h : Hp} {id : Nat} {m : NM} (e : h.mapOf id = some (ent m)) (s : ByteArray) (z : EV) : mapGet .str z (.map id) (.p (.str s)) h = some (match findS s m with | some i => (eI i, true) | none => (z, false)) := by
 rw [mapGet_ok e (by simp [PD.alike]) (ent_alike _ _), ent_find]
 cases findS s m <;> rfl
theorem ent_upd {h : Hp} {id : Nat} {m : NM} (e : h.mapOf id = some (ent m)) (s : ByteArray) (i : Nat) (hl : h.lim ≤ id) : mapSet .str (.map id) (.p (.str s)) (eI i) h = some (h.setMap id (ent (setS s i m))) := by
 rw [mapSet_ok e (by simp [PD.alike]) (ent_alike _ _) hl, ent_set]
theorem Pfx.map {h h' : Hp} (x : Pfx h h') {id : Nat} {es : List (PD × EV)} (e : h.mapOf id = some es) : h'.mapOf id = some es := by
 have hl : id < h.objs.length := by
  unfold Hp.mapOf at e
  cases q : h.objs[id]? with
  | none => rw [q] at e; cases e
  | some o => exact (List.getElem?_eq_some_iff.1 q).1
 simpa only [Hp.mapOf, x.same id hl] using e
abbrev atM (q : Qry) : NM := pl q.es q.es.length
variable [Mx]
structure PlI (q : Qry) (h : Hp) (B : Nat) (ev : EV) (z : Nat) (f : Fr) (h' : Hp) : Prop where
 ex : ∃ i : Nat, i ≤ q.es.length ∧ z = q.es.length - i ∧ Fwd [] h h' ∧ f.get 3 = .map B ∧ f.get 8 = ev ∧ f.get 9 = eI q.es.length ∧ f.get 10 = eI i ∧ h'.mapOf B = some (ent (pl q.es i))
theorem places_ok {h : Hp} {q : Qry} {l : List EV} (V : QryV h q l) (he : q.es.length < 1000000) (hl : h.lim ≤ h.objs.length) :
 WA (C0 n_check_places [.agg l] h) fun u h' => ∃ id, u = .map id ∧ Fwd [] h h' ∧ h'.mapOf id = some (ent (atM q)) := by
 obtain ⟨ev, cv, rfl, E, Cv, CV⟩ := V
 refine call_W noExt_mono (f := n_check_places) rfl rfl ?_
 simp [ones, E.one, Cv.one]
 obtain ⟨X, eX⟩ : ∃ X, X = (h.new (.cells ⟨0, 4, true, 0, [[ev, cv, eI q.w, eB q.k]]⟩)).new (.map []) := ⟨_, rfl⟩
 have FX : Fwd [] h X := by rw [eX]; exact ((Fwd.refl _ _).new _).new _
 have nX : X.objs.length = h.objs.length + 2 := by rw [eX]; simp
 have x0 : X.arr h.objs.length 0 = some ⟨0, 4, true, 0, [[ev, cv, eI q.w, eB q.k]]⟩ := by rw [eX]; simp
 have m0 : X.mapOf (h.objs.length + 1) = some (ent []) := by rw [eX]; simp [ent]
 have PX := pfx FX
 rw [← eX]
 clear eX
 have hlX : X.lim = h.lim := FX.lim
 simp [E.len, E.cells, x0, nl (arr_lt x0)]
 refine Run_loop (PlI q h (h.objs.length + 1) ev) (n := q.es.length) ⟨0, by omega, rfl, FX, by simp, by simp, by simp, by simp, m0⟩ ?_
 rintro z f1 h1 ⟨i, hi, hz, F1, g3, g8, g9, g10, mi⟩
 have lm : h1.lim ≤ h1.objs.length := by have := F1.lim; have := F1.len; omega
 have mlt := map_lt mi
 by_cases hin : i < q.es.length
 · obtain ⟨e, hx⟩ : ∃ e, q.es[i]? = some e := ⟨_, List.getElem?_eq_getElem hin⟩
   obtain ⟨a, a1, a2⟩ := E.get (i := i) (el := e.cells) (by rw [List.getElem?_map, hx]; rfl) rfl
   have a2 := a2 h1 (pfx F1)
   simp [g3, g8, g9, g10, hin, a1, a2, Elem.cells, ones, lm]
   have FY : Fwd [] h ((h1.new (.cells ⟨0, 4, true, 0, [[eI 0, .p (.str (bs [])), eB false, eB false]]⟩)).setArr h1.objs.length ⟨0, 4, true, 0, [[eI e.ty, .p (.str e.v), eB e.plus, eB e.not]]⟩) := (F1.new _).set _ (.inr (by have := F1.len; omega))
   have mY : ((h1.new (.cells ⟨0, 4, true, 0, [[eI 0, .p (.str (bs [])), eB false, eB false]]⟩)).setArr h1.objs.length ⟨0, 4, true, 0, [[eI e.ty, .p (.str e.v), eB e.plus, eB e.not]]⟩).mapOf (h.objs.length + 1) = some (ent (pl q.es i)) := by
    have : ¬ h.objs.length + 1 = h1.objs.length := by omega
    simp [this, mi]
   generalize (h1.new (.cells ⟨0, 4, true, 0, [[eI 0, .p (.str (bs [])), eB false, eB false]]⟩)).setArr h1.objs.length ⟨0, 4, true, 0, [[eI e.ty, .p (.str e.v), eB e.plus, eB e.not]]⟩ = Y at *
   have lY : Y.lim = h.lim := FY.lim
   have up := ent_upd mY e.v i (by omega)
   have w3 : IntKind.i64.wrap ((i : Int) + 1) = (i : Int) + 1 := wrap64 (by omega) (by omega)
   simp [up, g10, w3]
   refine ⟨q.es.length - (i + 1), by omega, i + 1, by omega, rfl, FY.setMap _ (.inr (by omega)), by simp [g3], by simp [g8], by simp [g9], by simp, ?_⟩
   have := map_lt mY
   simp [pl, hx, this]
 · have : i = q.es.length := by omega
   subst this
   simp [g3, g8, g9, g10, Ends]
   rw [F1.back]
   exact ⟨F1, mi⟩
end Dk.L
