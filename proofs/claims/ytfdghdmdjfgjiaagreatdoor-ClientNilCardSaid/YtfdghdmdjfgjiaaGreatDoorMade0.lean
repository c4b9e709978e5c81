/- Queries by plain numbers: where they stand while they are made. -/
import Derived.Test.YtfdghdmdjfgjiaaGreatDoorCodes
set_option linter.unusedVariables false
set_option linter.unusedSimpArgs false
set_option linter.unusedSectionVars false
namespace Dk.C
open Go Dk

def isL (v : EV) (l : List Code) : Prop := v = .p (.list (l.map Code.pd)) ∨ v = .full (l.map Code.pd)
abbrev Cc := Cnd × EV × EV
def Cc.cells (c : Cc) : List EV := [eI c.1.op, c.2.1, c.2.2]
structure CcOK (c : Cc) : Prop where
  l : isL c.2.1 c.1.l
  r : isL c.2.2 c.1.r
  ok : CndOK c.1
/-- No slice that is as long as it may be. -/
def Slim (v : EV) : Prop := ∀ id g sz off len, v ≠ .arr id g sz off len true
theorem append_slim {sz bytes : Nat} {ag : Bool} {v x : EV} {h : Hp} {ys : List (List EV)} (hx : elsOf sz x h = some ys) (hy : ys ≠ []) {v' : EV} {h' : Hp} (e : appendTo sz ag bytes v x h = some (v', h')) : Slim v' := by
  have hy' : ¬ ys.isEmpty = true := by simpa using hy
  simp only [appendTo, elsX, hx, if_neg hy'] at e
  intro id g s o l q
  split at e
  · cases e
  · split at e
    · cases e; cases q
    · cases e
  · split at e
    · split at e
      · split at e
        · cases e; cases q
        · split at e
          · cases e; cases q
          · cases e
      · cases e
    · cases e
  · cases e
/-- Something added to a row of one's own. -/
theorem Own.add {h : Hp} {sz bytes : Nat} {ag : Bool} {v x : EV} {els ys : List (List EV)} {fp : List Nat} (H : Own h sz ag v els fp) (hx : elsOf sz x h = some ys) (hy : ys ≠ []) (hb : (els.length + ys.length) * bytes ≤ 140737488355328) (hl : h.lim ≤ h.objs.length) :
    WA (appendTo sz ag bytes v x h) fun v' h' => ∃ fp', Own h' sz ag v' (els ++ ys) fp' ∧ Slim v' ∧ Fwd fp h h' ∧ Grown fp h fp' := by
  obtain ⟨v', h', e, fp', a, b, c⟩ := H.append hx hb hl
  exact ⟨v', h', e, fp', a, append_slim hx hy e, b, c⟩
def strs (l : List ByteArray) : List (List EV) := l.map fun s => [.p (.str s)]
structure MdAt (xs : List Int) (rz rb qb ab : Nat) (w : Int) (kk : Bool) (h : Hp) (es : List Elem) (cs : List Cc) (tv : EV) (ths : List ByteArray) (ev cv : EV) (fe fc ft : List Nat) : Prop where
  res : h.arr rz 0 = some ⟨0, 4, true, 0, [[.full [], .full [], eI 0, eB false]]⟩
  row : ∃ i, RowAt h rb xs i
  q : h.arr qb 0 = some ⟨0, 4, true, 0, [[ev, cv, eI w, eB kk]]⟩
  all : h.arr ab 0 = some ⟨0, 4, true, 0, [[.p (.str (bs [97])), .p (.str (bs [98])), .p (.str (bs [99])), .p (.str (bs [100]))]]⟩
  eo : Own h 4 true ev (es.map Elem.cells) fe
  co : Own h 3 true cv (cs.map Cc.cells) fc
  th : Own h 1 false tv (strs ths) ft
  el : Slim ev
  cl : Slim cv
  esv : ∀ e ∈ es, isVar e.v
  csv : ∀ c ∈ cs, CcOK c
  thv : ∀ s ∈ ths, isVar s
  ord : rz < rb ∧ rb < qb ∧ qb < ab
  oe : ∀ y ∈ fe, ab < y
  oc : ∀ y ∈ fc, ab < y
  ot : ∀ y ∈ ft, ab < y
  ec : ∀ y ∈ fe, y ∉ fc
  et : ∀ y ∈ fe, y ∉ ft
  ct : ∀ y ∈ fc, y ∉ ft
  lim : h.lim ≤ rz ∧ h.lim ≤ h.objs.length
variable {xs : List Int} {rz rb qb ab : Nat} {w : Int} {kk : Bool} {h h' : Hp} {es : List Elem} {cs : List Cc} {tv ev cv : EV} {ths : List ByteArray} {fe fc ft : List Nat}
theorem MdAt.lt (M : MdAt xs rz rb qb ab w kk h es cs tv ths ev cv fe fc ft) : rb < h.objs.length ∧ qb < h.objs.length ∧ ab < h.objs.length := by
  obtain ⟨i, R⟩ := M.row
  exact ⟨arr_lt R.arr, arr_lt M.q, arr_lt M.all⟩
theorem MdAt.next (M : MdAt xs rz rb qb ab w kk h es cs tv ths ev cv fe fc ft) {i : Nat} (R : RowAt h' rb xs i) (f : Fwd [rb] h h') : MdAt xs rz rb qb ab w kk h' es cs tv ths ev cv fe fc ft := by
  obtain ⟨res, row, q, all, oes, ocs, oth, el, cl, esv, csv, thv, ord, oe, oc, ot, ec, et, ct, lim⟩ := M
  exact ⟨f.arr res (by simp; omega), ⟨i, R⟩, f.arr q (by simp; omega), f.arr all (by simp; omega), oes.fwd f fun y hy z => by simp at z; have := oe y hy; omega, ocs.fwd f fun y hy z => by simp at z; have := oc y hy; omega, oth.fwd f fun y hy z => by simp at z; have := ot y hy; omega, el, cl, esv, csv, thv, ord, oe, oc, ot, ec, et, ct, by rw [f.lim]; exact lim.1, f.limlen lim.2⟩
theorem MdAt.fwd (M : MdAt xs rz rb qb ab w kk h es cs tv ths ev cv fe fc ft) (f : Fwd [] h h') : MdAt xs rz rb qb ab w kk h' es cs tv ths ev cv fe fc ft := by
  obtain ⟨i, R⟩ := M.row
  exact M.next (R.fwd f (by simp)) (f.mono (by simp))
/-- A name more. -/
theorem MdAt.addT (M : MdAt xs rz rb qb ab w kk h es cs tv ths ev cv fe fc ft) {tv' : EV} {s : ByteArray} {ft' : List Nat} (O : Own h' 1 false tv' (strs (ths ++ [s])) ft') (hv : isVar s) (f : Fwd ft h h') (g : Grown ft h ft') : MdAt xs rz rb qb ab w kk h' es cs tv' (ths ++ [s]) ev cv fe fc ft' := by
  have lt := M.lt
  obtain ⟨res, ⟨i, row⟩, q, all, oes, ocs, oth, el, cl, esv, csv, thv, ord, oe, oc, ot, ec, et, ct, lim⟩ := M
  have le := oes.lt
  have lc := ocs.lt
  refine ⟨f.arr res fun z => by have := ot _ z; omega, ⟨i, row.fwd f fun z => by have := ot _ z; omega⟩, f.arr q fun z => by have := ot _ z; omega, f.arr all fun z => by have := ot _ z; omega, oes.fwd f et, ocs.fwd f ct, O, el, cl, esv, csv, fun y hy => ?_, ord, oe, oc, fun y hy => ?_, ec, fun y hy z => ?_, fun y hy z => ?_, by rw [f.lim]; exact lim.1, f.limlen lim.2⟩
  · rcases List.mem_append.1 hy with hy | hy
    · exact thv y hy
    · simp at hy; subst hy; exact hv
  · rcases g y hy with z | z
    · exact ot y z
    · omega
  · rcases g y z with z | z
    · exact et y hy z
    · have := le y hy; omega
  · rcases g y z with z | z
    · exact ct y hy z
    · have := lc y hy; omega
/-- An element more. -/
theorem MdAt.addE (M : MdAt xs rz rb qb ab w kk h es cs tv ths ev cv fe fc ft) {ev' : EV} {e : Elem} {fe' : List Nat} (O : Own h' 4 true ev' ((es ++ [e]).map Elem.cells) fe') (hle : Slim ev') (hv : isVar e.v) (f : Fwd fe h h') (g : Grown fe h fe') : MdAt xs rz rb qb ab w kk (h'.setArr qb ⟨0, 4, true, 0, [[ev', cv, eI w, eB kk]]⟩) (es ++ [e]) cs tv ths ev' cv fe' fc ft := by
  have lt := M.lt
  obtain ⟨res, ⟨i, row⟩, q, all, oes, ocs, oth, el, cl, esv, csv, thv, ord, oe, oc, ot, ec, et, ct, lim⟩ := M
  have lc := ocs.lt
  have lth := oth.lt
  have fl := f.len
  have F : Fwd [qb] h' (h'.setArr qb ⟨0, 4, true, 0, [[ev', cv, eI w, eB kk]]⟩) := (Fwd.refl _ _).set _ (by simp)
  have oe' : ∀ y ∈ fe', ab < y := fun y hy => by
    rcases g y hy with z | z
    · exact oe y z
    · omega
  refine ⟨F.arr (f.arr res fun z => by have := oe _ z; omega) (by simp; omega), ⟨i, (row.fwd f fun z => by have := oe _ z; omega).fwd F (by simp; omega)⟩, by simp [Hp.arr_set]; omega, F.arr (f.arr all fun z => by have := oe _ z; omega) (by simp; omega), O.fwd F fun y hy z => by simp at z; have := oe' y hy; omega, (ocs.fwd f fun y hy z => ec y z hy).fwd F fun y hy z => by simp at z; have := oc y hy; omega,
    (oth.fwd f fun y hy z => et y z hy).fwd F fun y hy z => by simp at z; have := ot y hy; omega, hle, cl, fun y hy => ?_, csv, thv, ord, oe', oc, ot, fun y hy z => ?_, fun y hy z => ?_, ct, by simp [f.lim]; exact lim.1, by simp; rw [f.lim]; omega⟩
  · rcases List.mem_append.1 hy with hy | hy
    · exact esv y hy
    · simp at hy; subst hy; exact hv
  · rcases g y hy with a | a
    · exact ec y a z
    · have := lc y z; omega
  · rcases g y hy with a | a
    · exact et y a z
    · have := lth y z; omega
/-- A condition more. -/
theorem MdAt.addC (M : MdAt xs rz rb qb ab w kk h es cs tv ths ev cv fe fc ft) {cv' : EV} {c : Cc} {fc' : List Nat} (O : Own h' 3 true cv' ((cs ++ [c]).map Cc.cells) fc') (hle : Slim cv') (hv : CcOK c) (f : Fwd fc h h') (g : Grown fc h fc') : MdAt xs rz rb qb ab w kk (h'.setArr qb ⟨0, 4, true, 0, [[ev, cv', eI w, eB kk]]⟩) es (cs ++ [c]) tv ths ev cv' fe fc' ft := by
  have lt := M.lt
  obtain ⟨res, ⟨i, row⟩, q, all, oes, ocs, oth, el, cl, esv, csv, thv, ord, oe, oc, ot, ec, et, ct, lim⟩ := M
  have le := oes.lt
  have lth := oth.lt
  have fl := f.len
  have F : Fwd [qb] h' (h'.setArr qb ⟨0, 4, true, 0, [[ev, cv', eI w, eB kk]]⟩) := (Fwd.refl _ _).set _ (by simp)
  have oc' : ∀ y ∈ fc', ab < y := fun y hy => by
    rcases g y hy with z | z
    · exact oc y z
    · omega
  refine ⟨F.arr (f.arr res fun z => by have := oc _ z; omega) (by simp; omega), ⟨i, (row.fwd f fun z => by have := oc _ z; omega).fwd F (by simp; omega)⟩, by simp [Hp.arr_set]; omega, F.arr (f.arr all fun z => by have := oc _ z; omega) (by simp; omega), (oes.fwd f ec).fwd F fun y hy z => by simp at z; have := oe y hy; omega, O.fwd F fun y hy z => by simp at z; have := oc' y hy; omega,
    (oth.fwd f fun y hy z => ct y z hy).fwd F fun y hy z => by simp at z; have := ot y hy; omega, el, hle, esv, fun y hy => ?_, thv, ord, oe, oc', ot, fun y hy z => ?_, et, fun y hy z => ?_, by simp [f.lim]; exact lim.1, by simp; rw [f.lim]; omega⟩
  · rcases List.mem_append.1 hy with hy | hy
    · exact csv y hy
    · simp at hy; subst hy; exact hv
  · rcases g y z with a | a
    · exact ec y hy a
    · have := le y hy; omega
  · rcases g y hy with a | a
    · exact ct y a z
    · have := lth y z; omega
/-- The names that there are. -/
theorem all_get (M : MdAt xs rz rb qb ab w kk h es cs tv ths ev cv fe fc ft) {k : Nat} (hk : k < 4) : ∃ s : ByteArray, isVar s ∧ ixpAt 4 1 (.ptr ab 0 0 0) (eI k) = some (.ptr ab 0 0 k) ∧ ∀ hh : Hp, hh.arr ab 0 = h.arr ab 0 → loadAt false 1 (.ptr ab 0 0 k) hh = some (.p (.str s)) := by
  have ha := M.all
  have hv : k = 0 ∨ k = 1 ∨ k = 2 ∨ k = 3 := by omega
  rcases hv with rfl | rfl | rfl | rfl
  · exact ⟨bs [97], .inr (.inl rfl), by simp [ixpAt, idx], fun hh e => by simp [loadAt, e, ha, mk, EV.one]⟩
  · exact ⟨bs [98], .inr (.inr (.inl rfl)), by simp [ixpAt, idx], fun hh e => by simp [loadAt, e, ha, mk, EV.one]⟩
  · exact ⟨bs [99], .inr (.inr (.inr (.inl rfl))), by simp [ixpAt, idx], fun hh e => by simp [loadAt, e, ha, mk, EV.one]⟩
  · exact ⟨bs [100], .inr (.inr (.inr (.inr rfl))), by simp [ixpAt, idx], fun hh e => by simp [loadAt, e, ha, mk, EV.one]⟩
end Dk.C
