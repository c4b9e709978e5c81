/- A hit of an act, made. -/
import Derived.Test.YtcbigcpdbidlaaaCmd1
set_option linter.unusedVariables false
set_option linter.unusedSimpArgs false
set_option linter.unusedSectionVars false
namespace Dk.Q
open Go Dk

def cA1 : DC := .ops [S 58 (.fld 5 (.t 2)),
      S 59 (.ld false 1 (.t 58)),
      S 60 (.mv (.t 8)),
      S 61 (.bin .add .none (.t 59) (.t 60)),
      S 62 (.call n_qrest [(.t 61), (xI 3)]),
      S 9 (.mv (.t 62))]
def cA2 : DC := .ops [S 63 (.fld 3 (.t 2)),
      S 64 (.ld false 1 (.t 63)),
      S 65 (.mv (.t 8)),
      S 66 (.ixa 1 (.t 64) (.t 65)),
      S 67 (.ld false 1 (.t 66)),
      S 68 (.call n_qrest [(.t 67), (xI 12)]),
      S 69 (.mv (.t 1)),
      S 70 (.bin .mul .none (xI 10) (.t 69)),
      S 71 (.mv (.t 8)),
      S 72 (.bin .add .none (.t 70) (.t 71)),
      S 73 (.call n_hit [(.t 68), (.t 72)]),
      S 10 (.new true [(eI 0), (.full []), (.full [])]),
      E (.st 3 (.t 10) (.t 73))]
def cBA : DC := .ops [S 77 (.fld 1 (.t 10)),
       S 78 (.fld 0 (.t 77)),
       S 79 (.ld false 1 (.t 78)),
       S 80 (.lit 1 false [[(eI 0)]] [(0, (xI 1))]),
       S 81 (.lit 1 false [[(.full [])]] [(0, (.t 80))]),
       S 82 (.app 1 false 24 (.t 79) (.t 81)),
       S 83 (.fld 1 (.t 10)),
       S 84 (.fld 0 (.t 83)),
       E (.st 1 (.t 84) (.t 82))]
def cBB : DC := .ops [S 85 (.fld 1 (.t 10)),
       S 86 (.fld 1 (.t 85)),
       S 87 (.ld false 1 (.t 86)),
       S 88 (.mv (.t 1)),
       S 89 (.build [(eI 0), (eI 0)] [(0, 1, (xI 1)), (1, 1, (.t 88))]),
       S 90 (.lit 2 true [[(eI 0), (eI 0)]] [(0, (.t 89))]),
       S 91 (.app 2 true 16 (.t 87) (.t 90)),
       S 92 (.fld 1 (.t 10)),
       S 93 (.fld 1 (.t 92)),
       E (.st 1 (.t 93) (.t 91))]
def cB0 : DC := .ops [S 74 (.mv (.t 8)), S 75 (.bin .and .none (.t 74) (xI 1)), S 76 (.bin .eql .none (.t 75) (xI 1))]
def zeroC : List EV := [eI 0, eI 0, eI 0, eI 0, eI 0, eI 0, eI 0, eI 0, eI 0, eI 0, eI 0, .full [], eI 0, eB false]
def Act.cells (a : Act) : List EV := [eI a.kind, eI a.id, eI a.n, .p (.list (a.hits.map iN)), .p (.list (a.lost.map iN)), eI a.shard]

def OutRow (P : Nat → Prop) (h : Hp) (row : List EV) (o : OutV) : Prop := ∃ hv lv, row = [hv, lv, .full [], .full []] ∧ HV P h hv o.hits ∧ Shows P h 7 lv (.list (o.lost.map iN)) ∧ (o.lost = [] → lv = .full []) ∧ o.u = [] ∧ o.d = []
theorem OutRow.fwd {P : Nat → Prop} {h h' : Hp} {ids : List Nat} (f : Fwd ids h h') (hi : ∀ y ∈ ids, ¬ P y) {el : List EV} {x : OutV} : OutRow P h el x → OutRow P h' el x
  | ⟨hv, lv, e, q, r, u⟩ => ⟨hv, lv, e, q.fwd f hi, r.fwd f hi, u⟩
/-- Where command stands. -/
structure CAt (a : Act) (s : Int) (n0 r : Nat) (f : Fr) (h : Hp) (rows : List (List EV)) (O : List OutV) : Prop where
  g1 : f.get 1 = eI s
  g2 : f.get 2 = .ptr n0 0 0 0
  g4 : f.get 4 = .ptr (n0 + 1) 0 0 0
  g7 : f.get 7 = .arr r 0 4 0 3 false
  aB : h.arr n0 0 = some ⟨0, 6, true, 0, [a.cells]⟩
  aC : h.arr (n0 + 1) 0 = some ⟨0, 14, true, 0, [zeroC]⟩
  aR : h.arr r 0 = some ⟨0, 4, true, 0, rows⟩
  len : rows.length = 3
  lim : h.lim ≤ n0 ∧ n0 + 1 < r
  is : All2 (OutRow (fun y => r < y) h) rows O
theorem CAt.limlen {a : Act} {s : Int} {n0 r : Nat} {f : Fr} {h : Hp} {rows : List (List EV)} {O : List OutV} (I : CAt a s n0 r f h rows O) : r < h.objs.length ∧ h.lim ≤ h.objs.length := by
  have l1 := arr_lt I.aR
  have := I.lim
  exact ⟨l1, by omega⟩
theorem CAt.fwd {a : Act} {s : Int} {n0 r : Nat} {f f' : Fr} {h h' : Hp} {rows : List (List EV)} {O : List OutV} (I : CAt a s n0 r f h rows O) (F : Fwd [] h h') (e : ∀ t ∈ [1, 2, 4, 7], f'.get t = f.get t) : CAt a s n0 r f' h' rows O :=
  ⟨(e 1 (by simp)).trans I.g1, (e 2 (by simp)).trans I.g2, (e 4 (by simp)).trans I.g4, (e 7 (by simp)).trans I.g7, F.arr I.aB (by simp), F.arr I.aC (by simp), F.arr I.aR (by simp), I.len, by rw [F.lim]; exact I.lim, I.is.imp fun _ _ => OutRow.fwd F (by simp)⟩

theorem and_one (i : Int) : ∃ w : Int, binOp .and .none (eI i) (.p (.int .i64 1)) = some (eI w) := ⟨_, rfl⟩

/-- The hit, made; one of two events, now and then. -/
theorem odd_ok {P : Nat → Prop} {f : Fr} {h : Hp} {Q : Ex → Fr → Hp → Prop} {ks : List Ct} {b : Nat} {id n i s : Int} (g8 : f.get 8 = eI i) (g1 : f.get 1 = eI s) (g10 : f.get 10 = .ptr b 0 0 0)
    (ab : h.arr b 0 = some ⟨0, 3, true, 0, [[eI id, .full [.list [iN n]], .full [rPD (n, 0)]]]⟩) (hlb : h.lim ≤ b) (hP : ∀ y, h.objs.length ≤ y → P y) (hPb : ¬ P b)
    (hQ : ∀ (f' : Fr) (h' : Hp) (x : Hit) (sv rv : EV), (∀ t ∈ [1, 2, 4, 7, 8, 9, 10], f'.get t = f.get t) → h'.arr b 0 = some ⟨0, 3, true, 0, [[eI id, sv, rv]]⟩ → x.id = id → FndOK x.f → Shows P h' 6 sv (.list x.f.sets) → Shows P h' 6 rv (.list (x.f.refs.map rPD)) → Fwd [b] h h' → Run C0 ks .normal f' h' Q) :
    Run C0 (.code cB0 :: .code (.cond (.t 76) (.seq cBA cBB) .skip) :: ks) .normal f h Q := by
  have lb := arr_lt ab
  have hl : h.lim ≤ h.objs.length := by omega
  obtain ⟨w, hw⟩ := and_one i
  simp only [cB0]
  simp [g8, hw]
  by_cases h1 : w = 1
  · simp only [cBA, cBB]
    simp [h1, g8, g1, g10, ab, nl lb, lk hl, hlb, ones]
    refine PutA_eq (v := .arr (h.objs.length + 2) 0 1 0 2 false) (h := ((h.new (.cells ⟨0, 1, false, 0, [[eI 1]]⟩)).new (.cells ⟨0, 1, false, 0, [[.arr h.objs.length 0 1 0 1 true]]⟩)).new (.cells ⟨0, 1, false, 0, [[.p (.list [iN n])], [.arr h.objs.length 0 1 0 1 true]]⟩)) (by simp [appendTo, elsOf, sized]; rfl) ?_
    have l2 : h.lim ≤ h.objs.length + 2 := by omega
    simp [h1, g8, g1, g10, ab, nl lb, lk hl, hlb, ones]
    obtain ⟨X, eX⟩ : ∃ X, X = ((((h.new (.cells ⟨0, 1, false, 0, [[eI 1]]⟩)).new (.cells ⟨0, 1, false, 0, [[.arr h.objs.length 0 1 0 1 true]]⟩)).new (.cells ⟨0, 1, false, 0, [[.p (.list [iN n])], [.arr h.objs.length 0 1 0 1 true]]⟩)).setArr b ⟨0, 3, true, 0, [[eI id, .arr (h.objs.length + 2) 0 1 0 2 false, .full [rPD (n, 0)]]]⟩).new (.cells ⟨0, 2, true, 0, [[eI 1, eI s]]⟩) := ⟨_, rfl⟩
    have FX : Fwd [b] h X := by rw [eX]; repeat first | exact Fwd.refl _ _ | refine Fwd.new ?_ _ | refine Fwd.set ?_ _ (.inl (by simp))
    have nX : X.objs.length = h.objs.length + 4 := by rw [eX]; simp
    have x0 : X.arr h.objs.length 0 = some ⟨0, 1, false, 0, [[eI 1]]⟩ := by rw [eX]; simp [nl lb]
    have x1 : X.arr (h.objs.length + 1) 0 = some ⟨0, 1, false, 0, [[.arr h.objs.length 0 1 0 1 true]]⟩ := by rw [eX]; simp [nl lb]
    have x2 : X.arr (h.objs.length + 2) 0 = some ⟨0, 1, false, 0, [[.p (.list [iN n])], [.arr h.objs.length 0 1 0 1 true]]⟩ := by rw [eX]; simp [nl lb]
    have x3 : X.arr (h.objs.length + 3) 0 = some ⟨0, 2, true, 0, [[eI 1, eI s]]⟩ := by rw [eX]; simp [nl lb]
    have xb : X.arr b 0 = some ⟨0, 3, true, 0, [[eI id, .arr (h.objs.length + 2) 0 1 0 2 false, .full [rPD (n, 0)]]]⟩ := by rw [eX]; simp [nl lb, Hp.arr_set]
    refine PutA_eq (v := .arr (h.objs.length + 4) 0 2 0 2 false) (h := X.new (.cells ⟨0, 2, true, 0, [[eI n, eI 0], [eI 1, eI s]]⟩)) (by rw [← eX]; simp [appendTo, elsOf, sized, x3, nX, rPD]; rfl) ?_
    have lbX : X.lim ≤ b := by rw [FX.lim]; exact hlb
    have bX := arr_lt xb
    simp [h1, g8, g1, g10, xb, nl bX, lbX, ones]
    obtain ⟨Y, eY⟩ : ∃ Y, Y = (X.new (.cells ⟨0, 2, true, 0, [[eI n, eI 0], [eI 1, eI s]]⟩)).setArr b ⟨0, 3, true, 0, [[eI id, .arr (h.objs.length + 2) 0 1 0 2 false, .arr (h.objs.length + 4) 0 2 0 2 false]]⟩ := ⟨_, rfl⟩
    rw [← eY]
    have FY : Fwd [b] X Y := by rw [eY]; exact ((Fwd.refl _ _).new _).set _ (.inl (by simp))
    have nb : ∀ k, h.objs.length + k ∉ [b] := fun k q => by simp at q; omega
    have nb0 : h.objs.length ∉ [b] := nb 0
    have y0 := FY.arr x0 nb0
    have y2 := FY.arr x2 (nb 2)
    have y4 : Y.arr (h.objs.length + 4) 0 = some ⟨0, 2, true, 0, [[eI n, eI 0], [eI 1, eI s]]⟩ := by rw [eY]; simp [nl bX, Hp.arr_set, ← nX]
    have yb : Y.arr b 0 = some ⟨0, 3, true, 0, [[eI id, .arr (h.objs.length + 2) 0 1 0 2 false, .arr (h.objs.length + 4) 0 2 0 2 false]]⟩ := by rw [eY]; simp [nl bX, Hp.arr_set]
    have F := FX.trans FY
    have lY : Y.lim ≤ h.objs.length := by rw [F.lim]; exact hl
    refine hQ _ _ ⟨id, ⟨[.list [iN n], .list [iN 1]], [(n, 0), (1, s)]⟩⟩ _ _ (by simp) yb rfl ⟨by simp, [[n], [1]], by simp, by simp, by simp⟩ ?_ ?_ F
    · exact .inr ⟨_, _, 0, 2, false, _, _, rfl, y2, by simp, by omega, hP _ (by omega), rfl, ⟨_, rfl, .plain 5⟩, ⟨_, rfl, .inr ⟨_, _, 0, 1, true, _, [iN 1], rfl, y0, by simp, lY, hP _ (by omega), rfl, ⟨_, rfl, .plain 4⟩, trivial⟩⟩, trivial⟩
    · exact .inr ⟨_, _, 0, 2, false, _, _, rfl, y4, by simp, by omega, hP _ (by omega), rfl, ⟨_, rfl, .plain 5, .plain 5, trivial⟩, ⟨_, rfl, .plain 5, .plain 5, trivial⟩, trivial⟩
  · simp [h1]
    refine hQ _ _ ⟨id, ⟨[.list [iN n]], [(n, 0)]⟩⟩ _ _ (by simp) ab rfl ⟨by simp, [[n]], by simp, by simp, by simp⟩ (.full 6) (.full 6) (Fwd.refl _ _)
end Dk.Q
