/- Matches, and which comes first. -/
import Derived.Test.YtcbigcpdbidlaaaUpd
set_option linter.unusedVariables false
set_option linter.unusedSimpArgs false
set_option linter.unusedSectionVars false
namespace Dk.Q
open Go Dk

theorem hit_ok (id n : Int) (h : Hp) : C0 n_hit [eI id, eI n] h = some (.agg [eI id, .full [.list [iN n]], .full [rPD (n, 0)]], h) := by
  refine call_locS noExt_mono (f := n_hit) rfl rfl (by simp [EV.under, EV.unders]) fun h0 e0 el => ?_
  simp [EndsS, el]
  simp [shareVs, shareV, shareC, shareEls, shareCs, Hp.new, Hp.setArr]
  exact ⟨rfl, rfl⟩

structure Hit where
  id : Int
  f : Fnd
def Hit.pd (x : Hit) : PD := .agg [iN x.id, .list x.f.sets, .list (x.f.refs.map rPD)]
def Hit.ev (x : Hit) : EV := .agg [eI x.id, .p (.list x.f.sets), .p (.list (x.f.refs.map rPD))]

theorem less_ok (x y : Hit) (h : Hp) : C0 n_publish2 [x.ev, y.ev] h = some (eB (decide (x.id < y.id)), h) := by
  refine call_loc noExt_mono (f := n_publish2) rfl rfl rfl fun h0 e0 el => ?_
  simp [Hit.ev, Ends, ones]

def rowPD (l : List Hit) : PD := .list (l.map Hit.pd)
/-- The row whose first match goes next, of the first so many. -/
def bestN (rows : List (List Hit)) : Nat → Int
  | 0 => -1
  | i + 1 => match rows[i]? with
    | some (x :: _) => if bestN rows i < 0 then i else match rows[(bestN rows i).toNat]? with
      | some (y :: _) => if x.id < y.id then i else bestN rows i
      | _ => bestN rows i
    | _ => bestN rows i

theorem bestN_ok (rows : List (List Hit)) : ∀ i, -1 ≤ bestN rows i ∧ bestN rows i < i ∧ (0 ≤ bestN rows i → ∃ y r, rows[(bestN rows i).toNat]? = some (y :: r))
  | 0 => by simp [bestN]
  | i + 1 => by
    obtain ⟨h1, h2, h3⟩ := bestN_ok rows i
    simp only [bestN]
    split
    · rename_i x r hx
      have new : ∃ y r, rows[((i : Int)).toNat]? = some (y :: r) := ⟨x, r, by simpa using hx⟩
      split
      · exact ⟨by omega, by omega, fun _ => new⟩
      · rename_i hb
        obtain ⟨y, r', hy⟩ := h3 (by omega)
        rw [hy]
        simp only
        split
        · exact ⟨by omega, by omega, fun _ => new⟩
        · exact ⟨h1, by omega, h3⟩
    · exact ⟨h1, by omega, h3⟩

structure BLoop (rows : List (List Hit)) (b rc g fr i : Nat) (f : Fr) (h' : Hp) : Prop where
  g1 : f.get 1 = .ptr b 0 0 0
  g3 : f.get 3 = eI (bestN rows i)
  g7 : f.get 7 = .arr rc g 1 0 rows.length false
  g8 : f.get 8 = eI rows.length
  g9 : f.get 9 = eI i
  ar : h'.arr rc g = some ⟨g, 1, false, fr, rows.map fun l => [.p (rowPD l)]⟩
  ab : h'.arr b 0 = some ⟨0, 2, true, 0, [[.arr rc g 1 0 rows.length false, .fn (.func n_publish2) [] []]]⟩

theorem best_ok (rows : List (List Hit)) {h : Hp} {rc g : Nat} {fr : Nat} (hr : h.arr rc g = some ⟨g, 1, false, fr, rows.map fun l => [.p (rowPD l)]⟩) (hb : rows.length < 1000000) :
    C0 n_best [.agg [.arr rc g 1 0 rows.length false, .fn (.func n_publish2) [] []]] h = some (eI (bestN rows rows.length), h) := by
  refine call_loc noExt_mono (f := n_best) rfl rfl rfl fun h0 e0 el => ?_
  have hr0 : h0.arr rc g = _ := (Hp.arr_objs e0 rc g).trans hr
  have l1 := arr_lt hr0
  simp [ones, nl l1]
  refine Run_loop (fun q f h' => ∃ i, i ≤ rows.length ∧ q = rows.length - i ∧ BLoop rows h0.objs.length rc g fr i f h') (n := rows.length) ?_ ?_
  · exact ⟨0, Nat.zero_le _, rfl, by simp, by simp [bestN], by simp, by simp, by simp, by simp [nl l1, hr0], by simp⟩
  rintro q f h2 ⟨i, hi, rfl, ⟨g1, g3, g7, g8, g9, ar, ab⟩⟩
  by_cases hlt : i < rows.length
  · obtain ⟨row, hrow⟩ : ∃ row, rows[i]? = some row := ⟨_, List.getElem?_eq_getElem hlt⟩
    have hrow2 : rows[i] = row := (List.getElem?_eq_some_iff.1 hrow).2
    have wi : IntKind.wrap .i64 ((i : Int) + 1) = (i : Int) + 1 := wrap64 (by omega) (by omega)
    obtain ⟨b1, b2, b3⟩ := bestN_ok rows i
    have ll := arr_lt ar
    have lb := arr_lt ab
    cases row with
    | nil =>
      have e : bestN rows (i + 1) = bestN rows i := by simp [bestN, hrow]
      simp [g1, g3, g7, g8, g9, hlt, ar, hrow2, rowPD, wi]
      exact ⟨rows.length - (i + 1), by omega, i + 1, by omega, rfl, by simp, by simp [e], by simp, by simp, by simp, ar, ab⟩
    | cons x r =>
      by_cases hb : bestN rows i < 0
      · have e : bestN rows (i + 1) = i := by simp [bestN, hrow, hb]
        simp [g1, g3, g7, g8, g9, hlt, ar, hrow2, rowPD, wi, hb]
        exact ⟨rows.length - (i + 1), by omega, i + 1, by omega, rfl, by simp, by simp [e], by simp, by simp, by simp, ar, ab⟩
      · obtain ⟨y, r', hy⟩ := b3 (by omega)
        obtain ⟨k, hk⟩ : ∃ k : Nat, bestN rows i = k := ⟨(bestN rows i).toNat, by omega⟩
        rw [hk] at hy hb b2
        simp only [Int.toNat_natCast] at hy
        have hkl : k < rows.length := by omega
        have hy2 : rows[k] = y :: r' := (List.getElem?_eq_some_iff.1 hy).2
        have e : bestN rows (i + 1) = if x.id < y.id then (i : Int) else k := by simp [bestN, hrow, hk, hy]; omega
        have kn : ¬ ((k : Int) < 0) := by omega
        have i0 : ∀ n : Nat, idx (.p (.int .i64 0)) (n + 1) = some 0 := fun n => by simp [idx]
        simp [g1, g3, g7, g8, g9, hlt, ar, hrow2, rowPD, wi, hk, ab, nl lb, hkl, hy2, Hit.pd, kn, i0]
        refine PutA_eq (less_ok x y h2) ?_
        by_cases hxy : x.id < y.id
        · rw [if_pos hxy] at e
          simp [hxy, wi]
          exact ⟨rows.length - (i + 1), by omega, i + 1, by omega, rfl, by simp, by simp [e], by simp, by simp, by simp, ar, ab⟩
        · rw [if_neg hxy] at e
          simp [hxy, wi]
          exact ⟨rows.length - (i + 1), by omega, i + 1, by omega, rfl, by simp, by simp [e], by simp, by simp, by simp, ar, ab⟩
  · have : i = rows.length := by omega
    subst this
    simp [g1, g3, g7, g8, g9, Ends]
end Dk.Q
