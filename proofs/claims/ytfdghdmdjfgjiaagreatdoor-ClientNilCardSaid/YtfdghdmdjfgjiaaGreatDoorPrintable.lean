/- Queries by plain numbers; may one be printed? -/
import Derived.Test.YtfdghdmdjfgjiaaGreatDoorText
set_option linter.unusedVariables false
set_option linter.unusedSimpArgs false
set_option linter.unusedSectionVars false
namespace Dk.C
open Go Dk

structure Elem where
  ty : Int
  v : ByteArray
  (plus not : Bool)
def Elem.cells (e : Elem) : List EV := [eI e.ty, .p (.str e.v), eB e.plus, eB e.not]
def Elem.pd (e : Elem) : PD := .agg [iN e.ty, .str e.v, .bool e.plus, .bool e.not]
structure Cnd where
  op : Int
  (l r : List Code)
def Cnd.pd (c : Cnd) : PD := .agg [iN c.op, .list (c.l.map Code.pd), .list (c.r.map Code.pd)]
structure Qry where
  es : List Elem
  cs : List Cnd
  w : Int
  k : Bool
def Qry.cells (q : Qry) : List EV := [.p (.list (q.es.map Elem.pd)), .p (.list (q.cs.map Cnd.pd)), eI q.w, eB q.k]
structure CodesOK (l : List Code) : Prop where
  ok : ∀ c ∈ l, CodeOK c
  len : l.length < 1000
structure CndOK (c : Cnd) : Prop where
  l : CodesOK c.l
  r : CodesOK c.r
structure QryOK (q : Qry) : Prop where
  es : ∀ e ∈ q.es, isVar e.v
  cs : ∀ c ∈ q.cs, CndOK c
  el : q.es.length ≤ 100
  cl : q.cs.length ≤ 100
  w : 0 ≤ q.w ∧ q.w ≤ 9
def goodE (e : Elem) : Prop := 0 ≤ e.ty ∧ e.ty ≤ 7
def goodC (c : Cnd) : Prop := hts c.l 0 = some 1 ∧ hts c.r 0 = some 1 ∧ 1 ≤ c.op ∧ c.op ≤ 6

theorem printable_ok {q : Qry} (ok : QryOK q) {h : Hp} (hh : h.lim ≤ h.objs.length) : ∃ b : Bool, (b = true → (∀ e ∈ q.es, goodE e) ∧ ∀ c ∈ q.cs, goodC c) ∧ C0 n_Printable [.agg q.cells] h = some (eB b, h) := by
  suffices hw : ∃ v, (∃ b : Bool, v = eB b ∧ (b = true → (∀ e ∈ q.es, goodE e) ∧ ∀ c ∈ q.cs, goodC c)) ∧ C0 n_Printable [.agg q.cells] h = some (v, h) by
    obtain ⟨v, ⟨s, rfl, e⟩, z⟩ := hw
    exact ⟨s, e, z⟩
  refine call_locX noExt_mono (f := n_Printable) rfl rfl (fun v ⟨s, e, _⟩ => by subst e; rfl) fun h0 e0 el => ?_
  have hl : h0.lim ≤ h0.objs.length := by omega
  simp [Qry.cells, ones]
  obtain ⟨X, eX⟩ : ∃ X, X = h0.new (.cells ⟨0, 4, true, 0, [q.cells]⟩) := ⟨_, rfl⟩
  have x0 : X.arr h0.objs.length 0 = some ⟨0, 4, true, 0, [q.cells]⟩ := by rw [eX]; simp
  have lX : X.lim ≤ X.objs.length := by rw [eX]; simp; omega
  simp only [Qry.cells] at eX x0
  rw [← eX]
  clear eX
  have l0 := arr_lt x0
  have el1 := ok.el
  have cl1 := ok.cl
  refine Run_loop (fun z f h' => ∃ i : Nat, h' = X ∧ f.get 1 = .ptr h0.objs.length 0 0 0 ∧ f.get 3 = eI i ∧ i ≤ q.es.length ∧ z = q.es.length - i ∧ ∀ e ∈ q.es.take i, goodE e) (n := q.es.length) ⟨0, rfl, by simp, by simp, by omega, rfl, by simp⟩ ?_
  rintro z f2 h2 ⟨i, rfl, g1, g3, ile, hz, hgo⟩
  by_cases hi : i < q.es.length
  · obtain ⟨e, he⟩ : ∃ e, q.es[i]? = some e := ⟨_, List.getElem?_eq_getElem hi⟩
    have he2 := (List.getElem?_eq_some_iff.1 he).2
    have hv := ok.es e (List.mem_of_getElem? he)
    have w1 : IntKind.i64.wrap ((i : Int) + 1) = (i : Int) + 1 := wrap64 (by omega) (by omega)
    have tk1 : q.es.take (i + 1) = q.es.take i ++ [e] := by rw [List.take_add_one, he]; rfl
    simp [g1, g3, x0, hi, he2, Elem.pd, nl l0]
    refine PutA_eq (name_ok hv lX) ?_
    cases hn : nmB e.v
    · simp [Ends]
    · by_cases t0 : e.ty < 0
      · simp [g1, g3, x0, hi, he2, Elem.pd, nl l0, t0, Ends]
      · by_cases t7 : e.ty > 7
        · simp [g1, g3, x0, hi, he2, Elem.pd, nl l0, t0, t7, Ends]
        · simp [g1, g3, x0, hi, he2, Elem.pd, nl l0, t0, t7, w1]
          refine ⟨q.es.length - (i + 1), by omega, i + 1, by simp, by omega, rfl, fun y hy => ?_⟩
          rw [tk1] at hy
          rcases List.mem_append.1 hy with hy | hy
          · exact hgo y hy
          · simp at hy; subst hy; exact ⟨by omega, by omega⟩
  · obtain rfl : i = q.es.length := by omega
    rw [List.take_length] at hgo
    simp [g1, g3, x0, nl l0]
    refine Run_loop (fun z f h' => ∃ i : Nat, h' = h2 ∧ f.get 1 = .ptr h0.objs.length 0 0 0 ∧ f.get 5 = eI i ∧ i ≤ q.cs.length ∧ z = q.cs.length - i ∧ ∀ c ∈ q.cs.take i, goodC c) (n := q.cs.length) ⟨0, rfl, by simp, by simp, by omega, rfl, by simp⟩ ?_
    rintro z f3 h3 ⟨i, rfl, k1, k5, ile2, hz2, hgc⟩
    by_cases hi : i < q.cs.length
    · obtain ⟨c, hc⟩ : ∃ c, q.cs[i]? = some c := ⟨_, List.getElem?_eq_getElem hi⟩
      have hc2 := (List.getElem?_eq_some_iff.1 hc).2
      have cok := ok.cs c (List.mem_of_getElem? hc)
      have w1 : IntKind.i64.wrap ((i : Int) + 1) = (i : Int) + 1 := wrap64 (by omega) (by omega)
      have tk1 : q.cs.take (i + 1) = q.cs.take i ++ [c] := by rw [List.take_add_one, hc]; rfl
      simp [k1, k5, x0, hi, hc2, Cnd.pd, nl l0]
      refine PutA_eq (sound_ok cok.l.ok cok.l.len lX) ?_
      simp [k1, k5, x0, hi, hc2, Cnd.pd, nl l0]
      refine PutA_eq (sound_ok cok.r.ok cok.r.len lX) ?_
      by_cases s1 : hts c.l 0 = some 1
      · by_cases s2 : hts c.r 0 = some 1
        · by_cases o1 : c.op < 1
          · simp [k1, k5, x0, hi, hc2, Cnd.pd, nl l0, s1, s2, o1, Ends]
          · by_cases o6 : c.op > 6
            · simp [k1, k5, x0, hi, hc2, Cnd.pd, nl l0, s1, s2, o1, o6, Ends]
            · simp [k1, k5, x0, hi, hc2, Cnd.pd, nl l0, s1, s2, o1, o6, w1]
              refine ⟨q.cs.length - (i + 1), by omega, i + 1, by simp, by omega, rfl, fun y hy => ?_⟩
              rw [tk1] at hy
              rcases List.mem_append.1 hy with hy | hy
              · exact hgc y hy
              · simp at hy; subst hy; exact ⟨s1, s2, by omega, by omega⟩
        · simp [k1, k5, x0, hi, hc2, Cnd.pd, nl l0, s1, s2, Ends]
      · simp [k1, k5, x0, hi, hc2, Cnd.pd, nl l0, s1, Ends]
    · obtain rfl : i = q.cs.length := by omega
      rw [List.take_length] at hgc
      by_cases e0 : q.es.length > 0
      · simp [k1, k5, x0, nl l0, e0, ok.w.1, Ends]
        exact ⟨hgo, hgc⟩
      · simp [k1, k5, x0, nl l0, e0, Ends]
end Dk.C
