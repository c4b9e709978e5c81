/- Refs, counted and compared. -/
import Derived.Test.YtcbigcpdbidlaaaPub
set_option linter.unusedVariables false
set_option linter.unusedSimpArgs false
set_option linter.unusedSectionVars false
namespace Dk.Q
open Go Dk

theorem els_objs {h h0 : Hp} (e : h0.objs = h.objs) (sz : Nat) (v : EV) : elsOf sz v h0 = elsOf sz v h := by
  unfold elsOf
  split <;> first | rfl | simp only [Hp.arr_objs e]

def cnt (l : List (Int × Int)) (r : Int × Int) : Nat := l.countP fun x => decide (x = r)

structure CLoop (v : EV) (l : List (Int × Int)) (r : Int × Int) (b i : Nat) (f : Fr) (h' : Hp) : Prop where
  g0 : f.get 0 = v
  g3 : f.get 3 = .ptr b 0 0 0
  g5 : f.get 5 = eI (cnt (l.take i) r)
  g6 : f.get 6 = eI i
  ev : elsOf 2 v h' = some (refCells l)
  bx : h'.arr b 0 = some ⟨0, 2, true, 0, [[eI r.1, eI r.2]]⟩

theorem count_ok {v : EV} {h : Hp} {l : List (Int × Int)} (hv : elsOf 2 v h = some (refCells l)) (r : Int × Int) (hb : l.length < 1000000) : C0 n_Count6 [v, .agg [eI r.1, eI r.2]] h = some (eI (cnt l r), h) := by
  refine call_loc noExt_mono (f := n_Count6) rfl rfl rfl fun h0 e0 el => ?_
  have hv0 : elsOf 2 v h0 = some (refCells l) := (els_objs e0 2 v).trans hv
  simp [ones]
  refine Run_loop (fun q f h' => ∃ i, i ≤ l.length ∧ q = l.length - i ∧ CLoop v l r h0.objs.length i f h') (n := l.length) ?_ ?_
  · exact ⟨0, Nat.zero_le _, rfl, by simp, by simp, by simp [cnt], by simp, els_fwd hv0 ((Fwd.refl _ _).new _), by simp⟩
  rintro q f h2 ⟨i, hi, rfl, L⟩
  have elen : lenOf 0 v h2 = some l.length := by simpa [refCells] using els_len L.ev
  by_cases hlt : i < l.length
  · obtain ⟨x, hx⟩ : ∃ x, l[i]? = some x := ⟨_, List.getElem?_eq_getElem hlt⟩
    obtain ⟨q, q1, q2⟩ := els_get L.ev (i := i) (el := [eI x.1, eI x.2]) (by simp [refCells, hx]) rfl .i64
    have wi : IntKind.wrap .i64 ((i : Int) + 1) = (i : Int) + 1 := wrap64 (by omega) (by omega)
    have hc : cnt (l.take i) r ≤ i := by
      have := List.countP_le_length (p := fun x => decide (x = r)) (l := l.take i)
      simp at this
      simp only [cnt]
      omega
    have wc : IntKind.wrap .i64 ((cnt (l.take i) r : Int) + 1) = (cnt (l.take i) r : Int) + 1 := wrap64 (by omega) (by omega)
    have etk : l.take (i + 1) = l.take i ++ [x] := by rw [List.take_add_one, hx]; rfl
    have ec : cnt (l.take (i + 1)) r = cnt (l.take i) r + if x = r then 1 else 0 := by rw [etk]; simp [cnt, List.countP_append, List.countP_cons]
    have hq : cellsEq [.int, .int] [eI x.1, eI x.2] [eI r.1, eI r.2] = some (decide (x = r)) := by
      obtain ⟨x1, x2⟩ := x
      obtain ⟨r1, r2⟩ := r
      simp [cellsEq, cellEq]
      by_cases a : x1 = r1 <;> by_cases b : x2 = r2 <;> simp [a, b]
    simp [L.g0, L.g3, L.g5, L.g6, elen, hlt, q1, q2, L.bx, hq]
    by_cases hxr : x = r
    · simp only [hxr, if_true] at ec
      simp [hxr, wi, wc]
      exact ⟨l.length - (i + 1), by omega, i + 1, by omega, rfl, by simp, by simp, by simp [ec], by simp, L.ev, L.bx⟩
    · simp only [hxr, if_false, Nat.add_zero] at ec
      simp [hxr, wi]
      exact ⟨l.length - (i + 1), by omega, i + 1, by omega, rfl, by simp, by simp, by simp [ec], by simp, L.ev, L.bx⟩
  · have : i = l.length := by omega
    subst this
    simp [L.g0, L.g3, L.g5, L.g6, elen, Ends, List.take_length]

def sameR (a b : List (Int × Int)) : Bool := decide (a.length = b.length) && a.all fun x => decide (cnt a x = cnt b x)

structure SLoop (u v : EV) (a b : List (Int × Int)) (h0 : Hp) (i : Nat) (f : Fr) (h' : Hp) : Prop where
  g0 : f.get 0 = u
  g1 : f.get 1 = v
  g5 : f.get 5 = eI i
  hh : h' = h0
  ok : (a.take i).all (fun x => decide (cnt a x = cnt b x)) = true

theorem sameRefs_ok {u v : EV} {h : Hp} {a b : List (Int × Int)} (hu : elsOf 2 u h = some (refCells a)) (hv : elsOf 2 v h = some (refCells b)) (ha : a.length < 1000000) (hb : b.length < 1000000) : C0 n_SameRefs [u, v] h = some (eB (sameR a b), h) := by
  refine call_loc noExt_mono (f := n_SameRefs) rfl rfl rfl fun h0 e0 el => ?_
  have hu0 : elsOf 2 u h0 = some (refCells a) := (els_objs e0 2 u).trans hu
  have hv0 : elsOf 2 v h0 = some (refCells b) := (els_objs e0 2 v).trans hv
  have lu : lenOf 0 u h0 = some a.length := by simpa [refCells] using els_len hu0
  have lv : lenOf 0 v h0 = some b.length := by simpa [refCells] using els_len hv0
  by_cases hab : a.length = b.length
  · simp [lu, lv, hab]
    refine Run_loop (fun q f h' => ∃ i, i ≤ a.length ∧ q = a.length - i ∧ SLoop u v a b h0 i f h') (n := a.length) ?_ ?_
    · exact ⟨0, Nat.zero_le _, rfl, by simp, by simp, by simp, rfl, by simp⟩
    rintro q f h2 ⟨i, hi, rfl, ⟨g0, g1, g5, rfl, ok⟩⟩
    by_cases hlt : i < a.length
    · obtain ⟨x, hx⟩ : ∃ x, a[i]? = some x := ⟨_, List.getElem?_eq_getElem hlt⟩
      obtain ⟨q, q1, q2⟩ := els_get hu0 (i := i) (el := [eI x.1, eI x.2]) (by simp [refCells, hx]) rfl .i64
      have wi : IntKind.wrap .i64 ((i : Int) + 1) = (i : Int) + 1 := wrap64 (by omega) (by omega)
      have etk : a.take (i + 1) = a.take i ++ [x] := by rw [List.take_add_one, hx]; rfl
      simp [g0, g1, g5, lu, hlt, q1, q2]
      refine PutC_of (K := fun w h' => w = eI (cnt a x) ∧ h' = h2) ⟨_, _, count_ok hu0 x ha, rfl, rfl⟩ ?_
      rintro _ _ ⟨rfl, rfl⟩
      simp [q2]
      refine PutA_eq (count_ok hv0 x hb) ?_
      by_cases hc : cnt a x = cnt b x
      · simp [hc, wi]
        exact ⟨a.length - (i + 1), by omega, i + 1, by omega, rfl, by simp, by simp, by simp, rfl, by rw [etk, List.all_append, ok]; simp [hc]⟩
      · have hc2 : ¬ ((cnt a x : Int) = (cnt b x : Int)) := by omega
        have e : sameR a b = false := by
          simp only [sameR, Bool.and_eq_false_iff]
          right
          rw [List.all_eq_false]
          exact ⟨x, List.mem_of_getElem? hx, by simp [hc]⟩
        simp [hc2, Ends, e]
    · have : i = a.length := by omega
      subst this
      rw [List.take_length] at ok
      simp [g0, g1, g5, lu, Ends, sameR, hab]
      simpa using ok
  · have hne : ¬ ((a.length : Int) = (b.length : Int)) := by omega
    have e : sameR a b = false := by simp [sameR, hab]
    simp [lu, lv, Ends, e, hne]
end Dk.Q
