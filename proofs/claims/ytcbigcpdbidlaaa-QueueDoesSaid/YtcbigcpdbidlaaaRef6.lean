/- The reference's poll. -/
import Derived.Test.YtcbigcpdbidlaaaRef5
set_option linter.unusedVariables false
set_option linter.unusedSimpArgs false
set_option linter.unusedSectionVars false
namespace Dk.Q
open Go Dk

def pLoop : DC := .seq (.seq (.ops [S 47 (.mv (.t 9)),
     S 48 (.mv (.t 8)),
     S 49 (.bin .lss .none (.t 47) (.t 48))])
   (.cond (.t 49)
    (.skip)
    (.exit 0)))
   (.seq (.block 1 (.seq (.ops [S 52 (.fld 0 (.t 7)),
      S 53 (.fld 2 (.t 52)),
      S 54 (.ld false 1 (.t 53)),
      S 55 (.fld 1 (.t 6)),
      S 56 (.ld false 1 (.t 55)),
      S 57 (.mv (.t 9)),
      S 58 (.ixa 2 (.t 56) (.t 57)),
      S 59 (.fld 0 (.t 58)),
      S 60 (.ld false 1 (.t 59)),
      S 61 (.lit 1 false [[(.full [])]] [(0, (.t 60))]),
      S 62 (.app 1 false 24 (.t 54) (.t 61)),
      S 63 (.fld 0 (.t 7)),
      S 64 (.fld 2 (.t 63)),
      E (.st 1 (.t 64) (.t 62))])
    (.ops [S 65 (.fld 3 (.t 7)),
      S 66 (.ld false 1 (.t 65)),
      S 67 (.fld 1 (.t 6)),
      S 68 (.ld false 1 (.t 67)),
      S 69 (.mv (.t 9)),
      S 70 (.ixa 2 (.t 68) (.t 69)),
      S 71 (.fld 1 (.t 70)),
      S 72 (.ld false 1 (.t 71)),
      S 73 (.app 2 true 16 (.t 66) (.t 72)),
      S 74 (.fld 3 (.t 7)),
      E (.st 1 (.t 74) (.t 73))])))
   (.ops [S 50 (.mv (.t 9)),
     S 51 (.bin .add .none (.t 50) (xI 1)),
     S 9 (.mv (.t 51))]))
/-- What the reference's calls leave. -/
structure RAns (h : Hp) (v : EV) (h' : Hp) (err n : Int) (ms : List Fnd) (R : List (Int × Int)) : Prop where
  is : ∃ m r fm fr, v = .agg [eI err, eI n, m, r] ∧ Own h' 1 false m (setCells ms) fm ∧ Own h' 2 true r (refCells R) fr ∧ (∀ y ∈ fm, h.objs.length ≤ y) ∧ (∀ y ∈ fr, h.objs.length ≤ y)
theorem rans_plain {h h' : Hp} {err n : Int} : RAns h (.agg [eI err, eI n, .full [], .full []]) h' err n [] [] := ⟨.full [], .full [], [], [], rfl, by simpa [setCells] using Own.nil, by simpa [refCells] using Own.nil, by simp, by simp⟩

theorem rpoll_loop {row : List Fnd} {N b6 b7 : Nat} {rv rest : EV} {fp : List Nat} {h : Hp} {f : Fr} {lost : Bool} {Q : Ex → Fr → Hp → Prop} {ks : List Ct} (g6 : f.get 6 = .ptr b6 0 0 0) (g7 : f.get 7 = .ptr b7 0 0 0) (g8 : f.get 8 = eI N) (g9 : f.get 9 = eI 0) (hN : N ≤ row.length)
    (a6 : h.arr b6 0 = some ⟨0, 3, true, 0, [[rest, rv, eB lost]]⟩) (ho : EV.one rest = true) (a7 : h.arr b7 0 = some ⟨0, 4, true, 0, [[eI 0, eI 0, .full [], .full []]]⟩) (O : Own h 2 true rv (row.map Fnd.cells) fp) (h67 : b6 < b7) (hfp : ∀ y ∈ fp, y < b7) (hl7 : h.lim ≤ b7) (hl : h.lim ≤ h.objs.length) (hb : row.length < 100000) (hr : ∀ x ∈ row, x.refs.length ≤ 2)
    (hQ : ∀ f' h' m r fm fr, (∀ t ∈ [0, 4, 5], f'.get t = f.get t) → f'.get 6 = .ptr b6 0 0 0 → f'.get 7 = .ptr b7 0 0 0 → f'.get 8 = eI N → h'.arr b7 0 = some ⟨0, 4, true, 0, [[eI 0, eI 0, m, r]]⟩ → Own h' 1 false m (setCells (row.take N)) fm → Own h' 2 true r (refCells (allRefs (row.take N))) fr → (∀ y ∈ fm, h.objs.length ≤ y) → (∀ y ∈ fr, h.objs.length ≤ y) → Fwd [b7] h h' → Run C0 ks .normal f' h' Q) :
    Run C0 (.code (.loop [0, 4, 5, 6, 7, 8, 9] pLoop) :: .block 0 :: ks) .normal f h Q := by
  have lb7 := arr_lt a7
  have lb6 := arr_lt a6
  refine Run_loop (fun q f' h' => ∃ i m r fm fr, (∀ t ∈ [0, 4, 5], f'.get t = f.get t) ∧ f'.get 6 = .ptr b6 0 0 0 ∧ f'.get 7 = .ptr b7 0 0 0 ∧ f'.get 8 = eI N ∧ f'.get 9 = eI (i : Nat) ∧ i ≤ N ∧ q = N - i ∧ h'.arr b7 0 = some ⟨0, 4, true, 0, [[eI 0, eI 0, m, r]]⟩ ∧ Own h' 1 false m (setCells (row.take i)) fm ∧ Own h' 2 true r (refCells (allRefs (row.take i))) fr ∧ (∀ y ∈ fm, h.objs.length ≤ y) ∧ (∀ y ∈ fr, h.objs.length ≤ y) ∧ (∀ y ∈ fr, y ∉ fm) ∧ Fwd [b7] h h') (n := N)
    ⟨0, .full [], .full [], [], [], fun t _ => rfl, g6, g7, g8, g9, by omega, rfl, a7, by simpa [setCells] using Own.nil, by simpa [refCells, allRefs] using Own.nil, by simp, by simp, by simp, Fwd.refl _ _⟩ ?_
  rintro q f2 h2 ⟨i, m, r, fm, fr, Ie, I6, I7, I8, I9, Ile, Iq, A7, OM, OR, nm, nr, dj, If⟩
  have e0 := Ie 0 (by simp)
  have e4 := Ie 4 (by simp)
  have e5 := Ie 5 (by simp)
  have A6 := If.arr a6 (by simp; omega)
  have l2 := If.limlen hl
  have ll7 : h2.lim ≤ b7 := by rw [If.lim]; exact hl7
  have lA7 := arr_lt A7
  have lA6 := arr_lt A6
  simp only [pLoop]
  by_cases hi : i < N
  · obtain ⟨x, hx⟩ : ∃ x, row[i]? = some x := ⟨_, List.getElem?_eq_getElem (by omega)⟩
    have hel : (row.map Fnd.cells)[i]? = some x.cells := by rw [List.getElem?_map, hx]; rfl
    have OO := O.fwd If fun y hy q => by simp at q; subst q; exact Nat.lt_irrefl _ (hfp _ hy)
    obtain ⟨z, z', z1, z2, z3⟩ := els_fld OO.els hel rfl (j := 0) (e := .p (.list x.sets)) rfl rfl
    have w1 : IntKind.i64.wrap ((i : Int) + 1) = (i : Int) + 1 := wrap64 (by omega) (by omega)
    have tk : row.take (i + 1) = row.take i ++ [x] := by rw [List.take_add_one, hx]; rfl
    have hx2 := hr x (List.mem_of_getElem? hx)
    have sl : (setCells (row.take i)).length = i := by simp [setCells]; omega
    have rl : (allRefs (row.take i)).length ≤ i * 2 := by
      have : ∀ {l : List Fnd}, (∀ x ∈ l, x.refs.length ≤ 2) → (allRefs l).length ≤ l.length * 2 := by
        intro l
        induction l with
        | nil => intro _; simp [allRefs]
        | cons y l ih =>
          intro hh
          have h1 := hh y (by simp)
          have h2 := ih fun z hz => hh z (by simp [hz])
          simp only [allRefs, List.flatMap_cons, List.length_append, List.length_cons] at h2 ⊢
          omega
      have := this (l := row.take i) fun y hy => hr y (List.mem_of_mem_take hy)
      rw [List.length_take] at this
      omega
    simp [I6, I7, I8, I9, hi, A6, A7, z1, z2, z3, nl lA6, nl lA7]
    have F0 : Fwd [] h2 (h2.new (.cells ⟨0, 1, false, 0, [[.p (.list x.sets)]]⟩)) := (Fwd.refl _ _).new _
    refine PutA_of ((OM.fwd F0 (by simp)).append (x := .arr h2.objs.length 0 1 0 1 true) (ys := [[.p (.list x.sets)]]) (by simp [elsOf]) (by rw [sl]; simp; omega) (by simp; omega)) ?_
    rintro m3 h3 ⟨fm3, OM3, F3, G3⟩
    have F23 : Fwd fm h2 h3 := (F0.mono (by simp)).trans F3
    have no7 : b7 ∉ fm := fun q => by have := nm _ q; omega
    have no6 : b6 ∉ fm := fun q => by have := nm _ q; omega
    have B7 := F23.arr A7 no7
    have B6 := F23.arr A6 no6
    have lB7 := arr_lt B7
    have lB6 := arr_lt B6
    have ll3 : h3.lim ≤ b7 := by rw [F23.lim]; exact ll7
    have om3 := OM3.one
    have h7n6 : b6 ≠ b7 := by omega
    have nm3 : ∀ y ∈ fm3, h.objs.length ≤ y := fun y hy => by
      rcases G3 y hy with z | z
      · exact nm y z
      · simp at z; have := If.len; omega
    obtain ⟨X, eX⟩ : ∃ X, X = h3.setArr b7 ⟨0, 4, true, 0, [[eI 0, eI 0, m3, r]]⟩ := ⟨_, rfl⟩
    have FX : Fwd [b7] h3 X := by rw [eX]; exact (Fwd.refl _ _).set _ (by simp)
    have X7 : X.arr b7 0 = some ⟨0, 4, true, 0, [[eI 0, eI 0, m3, r]]⟩ := by rw [eX]; simp [Hp.arr_set, lB7]
    have X6 := FX.arr B6 (by simpa using h7n6)
    have OOX := (OO.fwd F23 (fun y hy q => by have := nm y q; have := hfp y hy; omega)).fwd FX (fun y hy q => by simp at q; subst q; exact Nat.lt_irrefl _ (hfp _ hy))
    obtain ⟨y, y', y1, y2, y3⟩ := els_fld OOX.els hel rfl (j := 1) (e := .p (.list (x.refs.map rPD))) rfl rfl
    have ORX := (OR.fwd F23 dj).fwd FX (fun y hy q => by simp at q; subst q; have := nr _ hy; omega)
    simp [I6, I7, I9, B7, ones, om3.1, om3.2, ll3, nl lB7, h7n6, B6]
    rw [← eX]
    simp [y1, y2, y3]
    refine PutA_of (ORX.append (x := .p (.list (x.refs.map rPD))) (ys := refCells x.refs) (refs_els _ _) (by simp [refCells]; omega) (by rw [FX.lim, F23.lim]; have := F23.len; have := FX.len; have := If.len; omega)) ?_
    rintro r4 h4 ⟨fr4, OR4, F4, G4⟩
    have no7r : b7 ∉ fr := fun q => by have := nr _ q; omega
    have C7 := F4.arr X7 no7r
    have lC7 := arr_lt C7
    have lX : h4.lim ≤ b7 := by rw [F4.lim, FX.lim]; exact ll3
    have or4 := OR4.one
    have OM4 := ((OM3.fwd FX fun y hy q => by
      simp at q; subst q
      rcases G3 _ hy with z | z
      · exact no7 z
      · simp at z; omega).fwd F4 fun y hy q => by
        rcases G3 _ hy with z | z
        · exact dj y q z
        · have := OR.lt _ q; simp at z; omega)
    have nr4 : ∀ y ∈ fr4, h.objs.length ≤ y := fun y hy => by
      rcases G4 y hy with z | z
      · exact nr y z
      · have := If.len; have := F23.len; have := FX.len; omega
    have dj4 : ∀ y ∈ fr4, y ∉ fm3 := fun y hy q => by
      have l3 := OM3.lt _ q
      have := FX.len
      rcases G4 y hy with z | z
      · rcases G3 _ q with w | w
        · exact dj y z w
        · have := OR.lt _ z; simp at w; omega
      · omega
    have FZ : Fwd [b7] h (h4.setArr b7 ⟨0, 4, true, 0, [[eI 0, eI 0, m3, r4]]⟩) := by
      refine (((If.trans' F23 ?_).trans FX).trans' F4 ?_).set _ (by simp)
      · intro y hy; exact .inr (nm y hy)
      · intro y hy; exact .inr (nr y hy)
    simp [I6, I7, I8, I9, C7, ones, or4.1, or4.2, lX, nl lC7, w1]
    refine ⟨N - (i + 1), by omega, by simp [e0, e4, e5], i + 1, by simp, by omega, rfl, m3, r4, ⟨rfl, rfl⟩, fm3, ?_, fr4, ?_, nm3, nr4, dj4, FZ⟩
    · rw [tk]
      have := OM4.fwd ((Fwd.refl [b7] h4).set (id := b7) ⟨0, 4, true, 0, [[eI 0, eI 0, m3, r4]]⟩ (by simp)) fun y hy q => by simp at q; subst q; have := nm3 _ hy; omega
      simpa [setCells] using this
    · rw [tk]
      have := OR4.fwd ((Fwd.refl [b7] h4).set (id := b7) ⟨0, 4, true, 0, [[eI 0, eI 0, m3, r4]]⟩ (by simp)) fun y hy q => by simp at q; subst q; have := nr4 _ hy; omega
      simpa [refCells, allRefs] using this
  · obtain rfl : i = N := by omega
    simp [I8, I9]
    exact hQ _ h2 m r fm fr (by simp [e0, e4, e5]) (by simp [I6]) (by simp [I7]) (by simp [I8]) A7 OM OR nm nr If
end Dk.Q
