/- Acts, as commands: all of it. -/
import Derived.Test.YtcbigcpdbidlaaaCmd4
set_option linter.unusedVariables false
set_option linter.unusedSimpArgs false
set_option linter.unusedSectionVars false
namespace Dk.Q
open Go Dk

def cLost : DC := .ops [S 156 (.mv (.t 7)),
      S 157 (.mv (.t 13)),
      S 158 (.mv (.t 7)),
      S 159 (.mv (.t 13)),
      S 160 (.ixa 4 (.t 158) (.t 159)),
      S 161 (.fld 1 (.t 160)),
      S 162 (.ld false 1 (.t 161)),
      S 163 (.fld 4 (.t 2)),
      S 164 (.ld false 1 (.t 163)),
      S 165 (.mv (.t 13)),
      S 166 (.ixa 1 (.t 164) (.t 165)),
      S 167 (.ld false 1 (.t 166)),
      ⟨(some 168), .call n_qrest [(.t 167), (xI 12)], none, [(162, .ld false 1 (.t 161), none)]⟩,
      S 169 (.lit 1 false [[(eI 0)]] [(0, (.t 168))]),
      S 170 (.app 1 false 8 (.t 162) (.t 169)),
      S 171 (.ixa 4 (.t 156) (.t 157)),
      S 172 (.fld 1 (.t 171)),
      E (.st 1 (.t 172) (.t 170))]
def cHLoop : DC := (.seq (.seq (.ops [S 47 (.mv (.t 8)),
     S 48 (.fld 3 (.t 2)),
     S 49 (.ld false 1 (.t 48)),
     S 50 (.len 0 (.t 49)),
     S 51 (.bin .lss .none (.t 47) (.t 50)),
     S 52 (.mv (.t 51)),
     ⟨(some 53), .mv (.t 8), (some (52, true)), []⟩,
     ⟨(some 54), .bin .lss .none (.t 53) (xI 6), (some (52, true)), []⟩,
     S 55 (.pick (.t 52) (.t 54) (xB false))])
   (.cond (.t 55)
    (.skip)
    (.exit 1)))
   (.seq (.block 2 cBody)
   (.ops [S 56 (.mv (.t 8)),
     S 57 (.bin .add .none (.t 56) (xI 1)),
     S 8 (.mv (.t 57))])))
def cLLoop : DC := (.seq (.seq (.ops [S 145 (.mv (.t 13)),
     S 146 (.fld 4 (.t 2)),
     S 147 (.ld false 1 (.t 146)),
     S 148 (.len 0 (.t 147)),
     S 149 (.bin .lss .none (.t 145) (.t 148)),
     S 150 (.mv (.t 149)),
     ⟨(some 151), .mv (.t 13), (some (150, true)), []⟩,
     ⟨(some 152), .bin .lss .none (.t 151) (xI 2), (some (150, true)), []⟩,
     S 153 (.pick (.t 150) (.t 152) (xB false))])
   (.cond (.t 153)
    (.skip)
    (.exit 5)))
   (.seq (.block 6 cLost)
   (.ops [S 154 (.mv (.t 13)),
     S 155 (.bin .add .none (.t 154) (xI 1)),
     S 13 (.mv (.t 155))])))
/-- Behind so many lost ids. -/
structure GoodL (i : Nat) (O : List OutV) : Prop where
  all : ∀ o ∈ O, Sorted o.hits ∧ o.hits.length ≤ 6 ∧ (∀ x ∈ o.hits, FndOK x.f ∧ 0 ≤ x.id ∧ x.id ≤ 11) ∧ o.lost.length ≤ 2
  not : ∀ (j : Nat) (o : OutV), i ≤ j → O[j]? = some o → o.lost = []

theorem lost_round {a : Act} {s : Int} {n0 r i : Nat} {f : Fr} {h : Hp} {rows : List (List EV)} {O : List OutV} {Q : Ex → Fr → Hp → Prop} {ks : List Ct} (I : CAt a s n0 r f h rows O) (g13 : f.get 13 = eI i) (hi : i < a.lost.length) (hi2 : i < 2) (G : GoodL i O)
    (hQ : ∀ f' h' rows' O', CAt a s n0 r f' h' rows' O' → f'.get 13 = eI i → GoodL (i + 1) O' → Run C0 ks .normal f' h' Q) : Run C0 (.code cLost :: ks) .normal f h Q := by
  obtain ⟨g1, g2, g4, g7, aB, aC, aR, len, ⟨li1, li2⟩, is⟩ := id I
  have lB := arr_lt aB
  have ⟨lr, lh⟩ := I.limlen
  obtain ⟨x0, hx0⟩ : ∃ x, a.lost[i]? = some x := ⟨_, List.getElem?_eq_getElem hi⟩
  have hx1 := (List.getElem?_eq_some_iff.1 hx0).2
  have hOl : O.length = 3 := by rw [← I.is.len]; exact len
  obtain ⟨o, ho⟩ : ∃ o, O[i]? = some o := ⟨_, List.getElem?_eq_getElem (by omega)⟩
  obtain ⟨row, hk, hv, lv, rfl, HVk, hlv, hl0, hu, hd⟩ := I.is.get ho
  have lz := G.not i o (Nat.le_refl _) ho
  obtain rfl := hl0 lz
  have hk2 := (List.getElem?_eq_some_iff.1 hk).2
  have hkl : i < rows.length := by omega
  have hk3 : i < 3 := by omega
  have Go := G.all o (List.mem_of_getElem? ho)
  simp only [cLost]
  simp [g1, g2, g7, g13, aB, aR, hk, hk2, hk3, len, Act.cells, nl lB, nl lr, hi, hx1]
  refine PutC_of (K := fun w h' => w = eI (restZ x0 12) ∧ h' = h) ⟨_, _, rest_ok (by omega) (by omega) h, rfl, rfl⟩ ?_
  rintro _ h9 ⟨rfl, rfl⟩
  generalize restZ x0 12 = Id
  simp [g1, g2, g7, g13, aB, aR, hk, hk2, hk3, len, Act.cells, nl lB, nl lr, hi, hx1]
  refine PutA_eq (v := .arr (h9.objs.length + 1) 0 1 0 1 false) (h := (h9.new (.cells ⟨0, 1, false, 0, [[eI Id]]⟩)).new (.cells ⟨0, 1, false, 0, [[eI Id]]⟩)) (by simp [appendTo, elsOf, sized]) ?_
  obtain ⟨X, eX⟩ : ∃ X, X = (h9.new (.cells ⟨0, 1, false, 0, [[eI Id]]⟩)).new (.cells ⟨0, 1, false, 0, [[eI Id]]⟩) := ⟨_, rfl⟩
  rw [← eX]
  have FX : Fwd [] h9 X := by rw [eX]; repeat first | exact Fwd.refl _ _ | refine Fwd.new ?_ _
  have nX : X.objs.length = h9.objs.length + 2 := by rw [eX]; simp
  have x1 : X.arr (h9.objs.length + 1) 0 = some ⟨0, 1, false, 0, [[eI Id]]⟩ := by rw [eX]; simp
  clear eX
  have aRX := FX.arr aR (by simp)
  have lrX : X.lim ≤ r := by rw [FX.lim]; omega
  have lX := arr_lt aRX
  simp [g1, g2, g7, g13, aRX, hk, hk2, hk3, len, nl lX, lrX, ones]
  obtain ⟨Y, eY⟩ : ∃ Y, Y = X.setArr r ⟨0, 4, true, 0, rows.set i [hv, .arr (h9.objs.length + 1) 0 1 0 1 false, .full [], .full []]⟩ := ⟨_, rfl⟩
  rw [← eY]
  have FY : Fwd [r] X Y := by rw [eY]; exact (Fwd.refl _ _).set _ (by simp)
  have F := (FX.mono (ids' := [r]) (by simp)).trans FY
  have nr : ∀ y ∈ [r], ¬ (r < y) := by simp
  have y1 := FY.arr x1 (by simp; omega)
  have hil : i < O.length := by omega
  refine hQ _ Y (rows.set i [hv, .arr (h9.objs.length + 1) 0 1 0 1 false, .full [], .full []]) (O.set i ⟨o.hits, [Id], o.u, o.d⟩) ⟨by simp [g1], by simp [g2], by simp [g4], by simp [g7], F.arr aB (by simp; omega), F.arr aC (by simp; omega), by rw [eY]; simp [Hp.arr_set, lX], by simp [len], by rw [F.lim]; exact ⟨li1, li2⟩, ?_⟩ (by simp [g13]) ⟨fun y hy => ?_, fun j y hj hy => ?_⟩
  · refine (I.is.imp fun _ _ => OutRow.fwd F nr).set ⟨hv, _, rfl, HVk.fwd F nr, ?_, by simp, hu, hd⟩ i
    exact .inr ⟨_, _, 0, 1, false, _, [iN Id], rfl, y1, by simp, by rw [F.lim]; omega, by omega, rfl, ⟨_, rfl, .plain 6⟩, trivial⟩
  · rcases List.mem_or_eq_of_mem_set hy with q | rfl
    · exact G.all y q
    · exact ⟨Go.1, Go.2.1, Go.2.2.1, by simp⟩
  · rw [List.getElem?_set_ne (by omega)] at hy
    exact G.not j y (by omega) hy
end Dk.Q
