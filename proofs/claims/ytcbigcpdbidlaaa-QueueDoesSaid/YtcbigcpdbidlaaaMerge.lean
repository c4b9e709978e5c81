/- Rows of matches, made one. -/
import Derived.Test.YtcbigcpdbidlaaaHit
set_option linter.unusedVariables false
set_option linter.unusedSimpArgs false
set_option linter.unusedSectionVars false
namespace Dk.Q
open Go Dk

theorem clone_ok {h : Hp} {rc : Nat} {n : Nat} {els : List (List EV)} (hr : h.arr rc 0 = some ⟨0, 1, false, 0, els⟩) (hn : n = els.length) (h0 : 0 < n) (hb : n < 1000000) (hl : h.lim ≤ h.objs.length) :
    WA (C0 n_Clone [.arr rc 0 1 0 n false] h) fun v h' => ∃ id, v = .arr id 0 1 0 n false ∧ h'.arr id 0 = some ⟨0, 1, false, 0, els⟩ ∧ h.objs.length ≤ id ∧ h'.lim ≤ id ∧ Fwd [] h h' := by
  refine call_W noExt_mono (f := n_Clone) rfl rfl ?_
  have l1 := arr_lt hr
  have hne : els ≠ [] := fun e => by rw [e] at hn; simp at hn; omega
  subst hn
  simp [Ends, someIn, h0, nl l1, hr]
  have key : ∀ X : Hp, X.arr rc 0 = some ⟨0, 1, false, 0, els⟩ → X.arr (h.objs.length + 1) 0 = some ⟨0, 1, false, 0, []⟩ → appendTo 1 false 24 (.arr (h.objs.length + 1) 0 1 0 0 true) (.arr rc 0 1 0 els.length false) X = some (.arr X.objs.length 0 1 0 els.length false, X.new (.cells ⟨0, 1, false, 0, els⟩)) := by
    intro X e1 e2
    have hb2 : els.length * 24 ≤ 140737488355328 := by omega
    simp [appendTo, elsOf, e1, e2, hne, hb2]
  refine PutA_eq (key _ (by simp [hr, nl l1]) (by simp)) ?_
  simp [Ends]
  repeat first | omega | exact Fwd.refl _ _ | refine Fwd.new ?_ _ | refine And.intro ?_ ?_

/-- One step of what makes one of rows. -/
def stepM (rows : List (List Hit)) : Option (Hit × List (List Hit)) :=
  if bestN rows rows.length < 0 then none else match rows[(bestN rows rows.length).toNat]? with
    | some (x :: r) => some (x, rows.set (bestN rows rows.length).toNat r)
    | _ => none
def mergeF : Nat → List (List Hit) → List Hit
  | 0, _ => []
  | n + 1, rows => match stepM rows with
    | some (x, rs) => x :: mergeF n rs
    | none => []

def total (rows : List (List Hit)) : Nat := (rows.map List.length).sum
theorem total_step {y : Hit} {r' : List Hit} : ∀ {rj : List (List Hit)} {k : Nat}, rj[k]? = some (y :: r') → total (rj.set k r') + 1 = total rj
  | [], k, h => by simp at h
  | l :: rj, 0, h => by
    simp at h
    subst h
    simp [total]
    omega
  | l :: rj, k + 1, h => by
    have := total_step (rj := rj) (k := k) (by simpa using h)
    simp only [total, List.set_cons_succ, List.map_cons, List.sum_cons] at this ⊢
    omega
theorem sized_row (l : List Hit) : sized 3 (l.map Hit.pd) = true := List.all_eq_true.2 fun x hx => by
  obtain ⟨r, _, rfl⟩ := List.mem_map.1 hx
  rfl

structure MLoop (N : Nat) (h : Hp) (fp : List Nat) (rows : List (List Hit)) (I : Nat → List Nat → Hp → Prop) (Y hd rc j : Nat) (rj : List (List Hit)) (fj : List Nat) (f : Fr) (h' : Hp) : Prop where
  g0 : f.get 0 = .yld Y
  g4 : f.get 4 = .ptr hd 0 0 0
  g5 : f.get 5 = eI (bestN rj rj.length)
  ahd : h'.arr hd 0 = some ⟨0, 2, true, 0, [[.arr rc 0 1 0 rj.length false, .fn (.func n_publish2) [] []]]⟩
  arc : h'.arr rc 0 = some ⟨0, 1, false, 0, rj.map fun l => [.p (rowPD l)]⟩
  inv : I j fj h'
  tot : total rj ≤ N - j ∧ j ≤ N
  is : ∃ dn, mergeF N rows = dn ++ mergeF (N - j) rj ∧ dn.length = j
  fw : Fwd fp h h'
  gr : Grown fp h fj
  hi : h.objs.length ≤ hd ∧ h.objs.length ≤ rc ∧ hd ≠ rc ∧ hd ∉ fj ∧ rc ∉ fj
  len : rj.length = rows.length

theorem merge1_ok {h : Hp} {Y b3 b2 r0 N : Nat} {rows : List (List Hit)} (h3 : h.arr b3 0 = some ⟨0, 1, false, 0, [[.arr r0 0 1 0 rows.length false]]⟩) (h2 : h.arr b2 0 = some ⟨0, 1, false, 0, [[.fn (.func n_publish2) [] []]]⟩) (hr : h.arr r0 0 = some ⟨0, 1, false, 0, rows.map fun l => [.p (rowPD l)]⟩)
    (hp : 0 < rows.length) (hb : rows.length < 1000000) (hl : h.lim ≤ h.objs.length) (hN : total rows ≤ N) {I : Nat → List Nat → Hp → Prop} {J : List Nat → Hp → Prop} (R : Rounds C0 Y ((mergeF N rows).map fun x => [x.ev]) I J) {fp : List Nat} (h0 : I 0 fp h) :
    WA (C0 n_Merge1 [.yld Y, .ptr b3 0 0 0, .ptr b2 0 0 0] h) fun _ h' => Handed (mergeF N rows).length I J fp h h' := by
  refine call_W noExt_mono (f := n_Merge1) rfl rfl ?_
  have l3 := arr_lt h3
  have l2 := arr_lt h2
  simp [h3, h2, nl l3, nl l2]
  have lr := arr_lt hr
  refine PutC_of (clone_ok (rc := r0) (n := rows.length) (els := rows.map fun l => [.p (rowPD l)]) (by simp [hr, nl lr]) (by simp) hp hb (by simp; omega)) ?_
  rintro v h4 ⟨rc, rfl, hrc, ge, lim4, f4⟩
  have f4' : Fwd [] h h4 := ((Fwd.refl _ _).new _).trans f4
  have h24 := f4'.arr h2 (by simp)
  have l24 := arr_lt h24
  have ah := f4.arr (id := h.objs.length) (g := 0) (ar := ⟨0, 2, true, 0, [[.full [], .nilf]]⟩) (by simp) (by simp)
  have lah := arr_lt ah
  have lrc := arr_lt hrc
  simp at ge
  have hlim : h4.lim ≤ h.objs.length := by rw [f4'.lim]; exact hl
  have nrc : rc ≠ h.objs.length := by omega
  have nrc' : h.objs.length ≠ rc := by omega
  simp [h24, ah, ones, hlim, nl l24, nl lah, nl lrc]
  refine ⟨by simp [EV.eqb, EV.eqbs], ?_⟩
  refine PutA_eq (best_ok rows (h := h4.setArr h.objs.length ⟨0, 2, true, 0, [[.arr rc 0 1 0 rows.length false, .fn (.func n_publish2) [] []]]⟩) (rc := rc) (g := 0) (fr := 0) (by simp [nrc, hrc]) hb) ?_
  have F0 : Fwd [h.objs.length] h4 (h4.setArr h.objs.length ⟨0, 2, true, 0, [[.arr rc 0 1 0 rows.length false, .fn (.func n_publish2) [] []]]⟩) := (Fwd.refl _ _).set _ (by simp)
  have Fs : Fwd [] h (h4.setArr h.objs.length ⟨0, 2, true, 0, [[.arr rc 0 1 0 rows.length false, .fn (.func n_publish2) [] []]]⟩) := f4'.trans' F0 (by simp)
  have fplt := R.lt 0 fp h h0
  simp
  refine Run_loop (fun q f h' => ∃ j rj fj, j ≤ N ∧ q = N - j ∧ MLoop N h fp rows I Y h.objs.length rc j rj fj f h') (n := N) ?_ ?_
  · refine ⟨0, rows, fp, by omega, rfl, ⟨by simp, by simp, by simp, by simp [lah], by simp [nrc, hrc], R.keep 0 fp [] _ _ h0 Fs (by simp), ⟨by omega, by omega⟩, ⟨[], by simp, rfl⟩, Fs.mono (by simp), fun y hy => .inl hy, ⟨by omega, by omega, by omega, fun q => ?_, fun q => ?_⟩, rfl⟩⟩
    · exact Nat.lt_irrefl _ (fplt _ q)
    · have := fplt _ q; omega
  rintro q f h5 ⟨j, rj, fj, hj, rfl, L⟩
  obtain ⟨dn, hdn, hdl⟩ := L.is
  obtain ⟨b1, b2, b3⟩ := bestN_ok rj rj.length
  by_cases hneg : bestN rj rj.length < 0
  · have em : mergeF (N - j) rj = [] := by
      cases N - j with
      | zero => rfl
      | succ m => simp [mergeF, stepM, hneg]
    have hn2 : ¬ (0 ≤ bestN rj rj.length) := by omega
    rw [em, List.append_nil] at hdn
    have hlen : (mergeF N rows).length = j := by rw [hdn]; exact hdl
    simp [L.g0, L.g4, L.g5, hn2, Ends]
    rw [hlen, Hp.back_of L.fw.lim]
    exact ⟨fj, L.fw, L.gr, .inl L.inv⟩
  · have hpos : 0 ≤ bestN rj rj.length := by omega
    obtain ⟨y, r', hy⟩ := b3 hpos
    obtain ⟨k, hk⟩ : ∃ k : Nat, bestN rj rj.length = k := ⟨(bestN rj rj.length).toNat, by omega⟩
    rw [hk] at hy b2 hneg
    simp only [Int.toNat_natCast] at hy
    have hkl : k < rj.length := by omega
    have hy2 : rj[k] = y :: r' := (List.getElem?_eq_some_iff.1 hy).2
    have hst : stepM rj = some (y, rj.set k r') := by simp [stepM, hk, hneg, hy]
    have lahd := arr_lt L.ahd
    have larc := arr_lt L.arc
    have i0 : ∀ n : Nat, idx (.p (.int .i64 0)) (n + 1) = some 0 := fun n => by simp [idx]
    simp [L.g0, L.g4, L.g5, hk, L.ahd, L.arc, hkl, hy2, rowPD, i0, Hit.pd]
    have hts := total_step hy
    obtain ⟨M, hM⟩ : ∃ M, N - j = M + 1 := ⟨N - j - 1, by have := L.tot.1; omega⟩
    have em : mergeF (N - j) rj = y :: mergeF M (rj.set k r') := by rw [hM]; simp [mergeF, hst]
    have hx : ((mergeF N rows).map fun x => [x.ev])[j]? = some [y.ev] := by
      rw [hdn, em]
      simp [← hdl]
    refine PutA_of (R.step j [y.ev] fj h5 hx L.inv) ?_
    rintro r h6 ⟨fj', f6, g6, hcase⟩
    obtain ⟨i1, i2, i3, i4, i5⟩ := L.hi
    have ahd6 := f6.arr L.ahd i4
    have arc6 := f6.arr L.arc i5
    have lahd6 := arr_lt ahd6
    have larc6 := arr_lt arc6
    have F6 : Fwd fp h h6 := L.fw.trans' f6 L.gr
    have G6 : Grown fp h fj' := fun y hy => by
      rcases g6 y hy with q | q
      · exact L.gr y q
      · exact .inr (by have := L.fw.len; omega)
    have n1 : h.objs.length ∉ fj' := fun q => by
      rcases g6 _ q with q2 | q2
      · exact i4 q2
      · omega
    have n2 : rc ∉ fj' := fun q => by
      rcases g6 _ q with q2 | q2
      · exact i5 q2
      · omega
    rcases hcase with ⟨rfl, hI⟩ | ⟨rfl, hJ⟩
    · have tail : sliceOf 3 (.p (.list (.agg [iN y.id, .list y.f.sets, .list (y.f.refs.map rPD)] :: r'.map Hit.pd))) (some (eI 1)) none none = some (.p (.list (r'.map Hit.pd))) := by
        have hs := sized_row (y :: r')
        simp only [List.map_cons, Hit.pd] at hs
        have h1 : (1 : Int) ≤ (r'.length : Int) + 1 := by omega
        simp [sliceOf, hs, bounds, upper, lower, bound, sliceEls, h1]
        exact List.take_of_length_le (by simp)
      have lim6 : h6.lim ≤ rc := by rw [F6.lim]; omega
      simp [ahd6, arc6, hkl, hy2, rowPD, Hit.pd, tail, ones, lim6, larc6, i3]
      have eset : (rj.map fun l => [EV.p (PD.list (l.map Hit.pd))]).set k [.p (.list (r'.map Hit.pd))] = (rj.set k r').map fun l => [.p (rowPD l)] := by rw [List.map_set]; rfl
      rw [eset]
      have F7 : Fwd [rc] h6 (h6.setArr rc ⟨0, 1, false, 0, (rj.set k r').map fun l => [.p (rowPD l)]⟩) := (Fwd.refl _ _).set _ (by simp)
      have hb' := best_ok (rj.set k r') (h := h6.setArr rc ⟨0, 1, false, 0, (rj.set k r').map fun l => [.p (rowPD l)]⟩) (rc := rc) (g := 0) (fr := 0) (by simp [larc6]) (by rw [List.length_set, L.len]; exact hb)
      rw [List.length_set] at hb'
      have ahd7 : (h6.setArr rc ⟨0, 1, false, 0, (rj.set k r').map fun l => [.p (rowPD l)]⟩).arr h.objs.length 0 = some ⟨0, 2, true, 0, [[.arr rc 0 1 0 rj.length false, .fn (.func n_publish2) [] []]]⟩ := by rw [Hp.arr_set, if_neg i3]; exact ahd6
      have arc7 : (h6.setArr rc ⟨0, 1, false, 0, (rj.set k r').map fun l => [.p (rowPD l)]⟩).arr rc 0 = some ⟨0, 1, false, 0, (rj.set k r').map fun l => [.p (rowPD l)]⟩ := by rw [Hp.arr_set, if_pos rfl, if_pos ⟨larc6, rfl⟩]
      generalize h6.setArr rc ⟨0, 1, false, 0, (rj.set k r').map fun l => [.p (rowPD l)]⟩ = h7 at *
      refine PutA_eq hb' ?_
      simp
      refine ⟨N - (j + 1), by have := L.tot; omega, j + 1, by have := L.tot; omega, rfl, rj.set k r', fj', ⟨by simp, by simp, by simp, by simpa using ahd7, arc7, R.keep (j + 1) fj' [rc] _ _ hI F7 (by simpa using n2), ⟨by have := L.tot; omega, by have := L.tot; omega⟩, ⟨dn ++ [y], ?_, by simp [hdl]⟩, F6.trans' F7 (fun z hz => .inr (by simp at hz; omega)), G6, ⟨i1, i2, i3, n1, n2⟩, by simp [L.len]⟩⟩
      rw [hdn, em, show N - (j + 1) = M by omega]
      simp
    · simp [Ends]
      rw [Hp.back_of F6.lim]
      exact ⟨fj', F6, G6, .inr hJ⟩
end Dk.Q
