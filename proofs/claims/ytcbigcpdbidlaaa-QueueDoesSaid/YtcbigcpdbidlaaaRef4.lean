/- The reference's desk: a line that changes. -/
import Derived.Test.YtcbigcpdbidlaaaRef3
set_option linter.unusedVariables false
set_option linter.unusedSimpArgs false
set_option linter.unusedSectionVars false
namespace Dk.Q
open Go Dk

theorem rEls_upd {a b : List (Int × Line)} {k : Int} {l l' : Line} {ra rb : List (EV × List Nat)} {rv rv' : EV} {fp fp' : List Nat} (hla : ra.length = a.length) : rEls (a ++ (k, l') :: b) (ra ++ (rv', fp') :: rb) = (rEls (a ++ (k, l) :: b) (ra ++ (rv, fp) :: rb)).set a.length [eI k, rv', eB l'.lost] := by
  simp only [rEls]
  rw [List.zipWith_append hla.symm, List.zipWith_append hla.symm]
  have hz : (List.zipWith (fun (l : Int × Line) (r : EV × List Nat) => [eI l.1, r.1, eB l.2.lost]) a ra).length = a.length := by simp [hla]
  rw [List.set_append_right _ _ (by omega), hz]
  simp
theorem rOwn_split (rid : Nat) (qf : List Nat) (ra rb : List (EV × List Nat)) (rv : EV) (fp : List Nat) : rOwn rid qf (ra ++ (rv, fp) :: rb) = (rid :: (qf ++ ra.flatMap Prod.snd)) ++ (fp ++ rb.flatMap Prod.snd) := by
  simp [rOwn]

theorem RefAt.put {h h1 : Hp} {rid : Nat} {cf : Conf} {a b : List (Int × Line)} {k : Int} {l l' : Line} {qf : List Nat} {ra rb : List (EV × List Nat)} {rv rv' : EV} {fp fp' : List Nat} (H : RefAt h rid cf (a ++ (k, l) :: b) qf (ra ++ (rv, fp) :: rb)) (hla : ra.length = a.length)
    (f : Fwd fp h h1) (hO : Own h1 2 true rv' (l'.row.map Fnd.cells) fp') (hg : Grown fp h fp') {qv : EV} (ht : h.arr rid 0 = some ⟨0, 8, true, 0, [cf.cells ++ [qv]]⟩) {id g : Nat} {all : List (List EV)} (hi : indexAddr 3 qv (eI a.length) = some (.ptr id g a.length 0)) (ha : h.arr id g = some ⟨g, 3, true, 0, all⟩) (hq : qf = [id]) :
    RefAt (h1.setArr id ⟨g, 3, true, 0, all.set a.length [eI k, rv', eB l'.lost]⟩) rid cf (a ++ (k, l') :: b) qf (ra ++ (rv', fp') :: rb) ∧ Fwd (qf ++ fp) h (h1.setArr id ⟨g, 3, true, 0, all.set a.length [eI k, rv', eB l'.lost]⟩) := by
  have d := H.dis
  rw [rOwn_split] at d
  obtain ⟨d1, d2, d3⟩ := List.nodup_append.1 d
  obtain ⟨d4, d5, d6⟩ := List.nodup_append.1 d2
  have hidq : id ∈ qf := by rw [hq]; simp
  have idfp : id ∉ fp := fun q => d3 id (by simp [hidq]) id (by simp [q]) rfl
  have ridfp : rid ∉ fp := fun q => d3 rid (by simp) rid (by simp [q]) rfl
  have rid_id : rid ≠ id := fun e => by
    have := (List.nodup_cons.1 d1).1
    exact this (by rw [e]; simp [hidq])
  have lt := H.lt
  rw [rOwn_split] at lt
  have ha1 := f.arr ha idfp
  have ht1 := f.arr ht ridfp
  have lid := arr_lt ha1
  obtain ⟨qv0, t0, q0⟩ := H.top
  have e0 : qv0 = qv := by
    rw [t0] at ht
    have := (Arr.mk.injEq .. ▸ Option.some.inj ht).2.2.2.2
    simpa using this
  subst e0
  have q1 := q0.fwd f (fun y hy q => d3 y (by simp [hy]) y (by simp [q]) rfl)
  have hlen : a.length < (rEls (a ++ (k, l) :: b) (ra ++ (rv, fp) :: rb)).length := by rw [rEls_len H.len]; simp
  obtain ⟨id', g', off, all', s1, s2, s3, s4, s5, s6, s7⟩ := q1.set hlen [eI k, rv', eB l'.lost]
  rw [hi] at s1
  have ei : id' = id ∧ g' = g := by simp at s1; exact ⟨s1.1.symm, s1.2.symm⟩
  obtain ⟨rfl, rfl⟩ := ei
  have eall : all' = all := by rw [ha1] at s3; simp at s3; exact s3.symm
  subst eall
  have F : Fwd [id'] h1 (h1.setArr id' ⟨g', 3, true, 0, all'.set a.length [eI k, rv', eB l'.lost]⟩) := (Fwd.refl _ _).set _ (by simp)
  have newfp : ∀ y ∈ fp', y ∈ fp ∨ h.objs.length ≤ y := hg
  have idfp' : id' ∉ fp' := fun q => by
    rcases hg _ q with z | z
    · exact idfp z
    · have := arr_lt ha; omega
  refine ⟨⟨⟨qv0, F.arr ht1 (by simpa using rid_id), ?_⟩, ?_, ?_, ?_, by rw [F.lim, f.lim]; exact H.lim⟩, ?_⟩
  · rw [rEls_upd (l := l) (rv := rv) (fp := fp) hla]; exact s7
  · have := H.len
    simpa using this
  · intro i k1 l1 rv1 fp1 h1' h2'
    by_cases hia : i < a.length
    · rw [List.getElem?_append_left hia] at h1'
      rw [List.getElem?_append_left (by omega)] at h2'
      have hm := List.mem_of_getElem? h2'
      refine ((H.rows i k1 l1 rv1 fp1 (by rw [List.getElem?_append_left hia]; exact h1') (by rw [List.getElem?_append_left (by omega)]; exact h2')).fwd f fun y hy q => ?_).fwd F fun y hy q => ?_
      · exact d3 y (by simp only [List.mem_cons, List.mem_append, List.mem_flatMap]; exact .inr (.inr ⟨_, hm, hy⟩)) y (by simp [q]) rfl
      · simp at q
        subst q
        have := (List.nodup_append.1 (List.nodup_cons.1 d1).2).2.2 y (by rw [hq]; simp) y (List.mem_flatMap.2 ⟨_, hm, hy⟩)
        exact this rfl
    · rw [List.getElem?_append_right (by omega)] at h1'
      rw [List.getElem?_append_right (by omega)] at h2'
      cases hj : i - a.length with
      | zero =>
        rw [hj] at h1'
        rw [hla, hj] at h2'
        simp at h1' h2'
        obtain ⟨rfl, rfl⟩ := h1'
        obtain ⟨rfl, rfl⟩ := h2'
        exact hO.fwd F fun y hy q => by simp at q; subst q; exact idfp' hy
      | succ j =>
        rw [hj, List.getElem?_cons_succ] at h1'
        rw [hla, hj, List.getElem?_cons_succ] at h2'
        have hm := List.mem_of_getElem? h2'
        refine ((H.rows i k1 l1 rv1 fp1 (by rw [List.getElem?_append_right (by omega), hj, List.getElem?_cons_succ]; exact h1') (by rw [List.getElem?_append_right (by omega), hla, hj, List.getElem?_cons_succ]; exact h2')).fwd f fun y hy q => ?_).fwd F fun y hy q => ?_
        · exact d6 y q y (List.mem_flatMap.2 ⟨_, hm, hy⟩) rfl
        · simp at q
          subst q
          exact d3 y (by simp [hidq]) y (List.mem_append_right _ (List.mem_flatMap.2 ⟨_, hm, hy⟩)) rfl
  · rw [rOwn_split]
    refine List.nodup_append.2 ⟨d1, List.nodup_append.2 ⟨hO.nodup, d5, fun x hx y hy e => ?_⟩, fun x hx y hy e => ?_⟩
    · subst e
      rcases hg x hx with z | z
      · exact d6 x z x hy rfl
      · have := lt x (by simp only [List.mem_append]; exact .inr (.inr hy)); omega
    · subst e
      rcases List.mem_append.1 hy with hy | hy
      · rcases hg x hy with z | z
        · exact d3 x hx x (by simp [z]) rfl
        · have := lt x (List.mem_append_left _ hx); omega
      · exact d3 x hx x (List.mem_append_right _ hy) rfl
  · refine (f.mono fun y hy => by simp [hy]).trans (F.mono fun y hy => ?_)
    simp at hy
    subst hy
    simp [hidq]
end Dk.Q
