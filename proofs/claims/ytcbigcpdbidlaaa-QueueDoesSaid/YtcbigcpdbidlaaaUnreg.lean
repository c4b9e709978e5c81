/- A query is ended. -/
import Derived.Test.YtcbigcpdbidlaaaPoll
set_option linter.unusedVariables false
set_option linter.unusedSimpArgs false
set_option linter.unusedSectionVars false
namespace Dk.Q
open Go Dk

theorem ents_del {a b : List (Int × Line)} {pa pb : List (Nat × List Nat)} {k : Int} {l : Line} {p : Nat} {fp : List Nat} (hl : pa.length = a.length) (h : ∀ x ∈ a, x.1 ≠ k) : delKey (iN k) (ents (a ++ (k, l) :: b) (pa ++ (p, fp) :: pb)) = ents (a ++ b) (pa ++ pb) := by
  induction a generalizing pa with
  | nil =>
    have : pa = [] := by simpa using hl
    subst this
    simp [ents, delKey]
  | cons x a ih =>
    cases pa with
    | nil => simp at hl
    | cons q pa =>
      have h1 : x.1 ≠ k := h x (by simp)
      have h2 : PD.eqb (iN k) (iN x.1) = false := by simp [PD.eqb, Ne.symm h1]
      have := ih (pa := pa) (by simpa using hl) (fun y hy => h y (by simp [hy]))
      simp only [ents, List.cons_append, List.zipWith_cons_cons, delKey, h2, Bool.false_eq_true, if_false] at this ⊢
      rw [this]

/-- A line less. -/
theorem DeskAt.del {h h' : Hp} {id idm : Nat} {a b : List (Int × Line)} {pa pb : List (Nat × List Nat)} {k : Int} {l : Line} {p : Nat} {fp : List Nat} {cf : Conf} (H : DeskAt h id idm (pa ++ (p, fp) :: pb) ⟨cf, a ++ (k, l) :: b⟩) (hla : pa.length = a.length)
    (f : Fwd [idm] h h') (hm : h'.mapOf idm = some (ents (a ++ b) (pa ++ pb))) : DeskAt h' id idm (pa ++ pb) ⟨cf, a ++ b⟩ := by
  have hd := H.dis
  have hsub : List.Sublist (own id idm (pa ++ pb)) (own id idm (pa ++ (p, fp) :: pb)) := by
    simp only [own]
    refine .cons_cons _ (.cons_cons _ ?_)
    simp only [List.flatMap_append, List.flatMap_cons]
    exact (List.Sublist.refl _).append (List.sublist_append_right _ _)
  have hlen : pb.length = b.length := by have := H.len; simp at this; omega
  have hid : id ∉ [idm] := fun q => by
    simp at q
    simp [own, q] at hd
  refine ⟨f.arr H.top hid, hm, by simp [hla, hlen], fun i k' l' p' fp' h1 h2 => ?_, hsub.nodup hd, by rw [f.lim]; exact H.lim⟩
  have hmem := List.mem_of_getElem? h2
  have key : LineAt h p' l' fp' := by
    by_cases hi : i < a.length
    · simp only at h1
      rw [List.getElem?_append_left hi] at h1
      rw [List.getElem?_append_left (by omega)] at h2
      exact H.lines i k' l' p' fp' (by simp only; rw [List.getElem?_append_left hi]; exact h1) (by rw [List.getElem?_append_left (by omega)]; exact h2)
    · simp only at h1
      rw [List.getElem?_append_right (by omega)] at h1
      rw [List.getElem?_append_right (by omega)] at h2
      refine H.lines (i + 1) k' l' p' fp' ?_ ?_
      · simp only
        rw [List.getElem?_append_right (by omega), show i + 1 - a.length = (i - a.length) + 1 by omega, List.getElem?_cons_succ]
        exact h1
      · rw [List.getElem?_append_right (by omega), show i + 1 - pa.length = (i - pa.length) + 1 by omega, List.getElem?_cons_succ]
        exact h2
  have hd2 := hsub.nodup hd
  simp only [own, List.nodup_cons, List.mem_cons, not_or] at hd2
  refine key.fwd f (fun q => ?_) fun x hx q => ?_
  · simp at q
    exact hd2.2.1 (List.mem_flatMap.2 ⟨_, hmem, by simp [q]⟩)
  · simp at q
    exact hd2.2.1 (List.mem_flatMap.2 ⟨_, hmem, by simp [← q, hx]⟩)

structure ULoop (h1 : Hp) (id : Nat) (k : Int) (w : EV) (row : List Fnd) (i : Nat) (f : Fr) (h' : Hp) : Prop where
  g0 : f.get 0 = .ptr id 0 0 0
  g6 : f.get 6 = .ptr h1.objs.length 0 0 0
  g8 : f.get 8 = .ptr (h1.objs.length + 1) 0 0 0
  g57 : f.get 57 = w
  g58 : f.get 58 = eI row.length
  g59 : f.get 59 = eI i
  fw : Fwd [] h1 h'
  len : h1.objs.length + 4 ≤ h'.objs.length
  box : ∃ c : Cmd, c.id = k ∧ h'.arr h1.objs.length 0 = some ⟨0, 14, true, 0, [c.cells]⟩
  ans : h'.arr (h1.objs.length + 1) 0 = some ⟨0, 3, true, 0, [[eI 0, eI 0, .full []]]⟩
  own : ∃ r fr, f.get 11 = r ∧ Own h' 2 true r (refCells (allRefs (row.take i))) fr ∧ (∀ x ∈ fr, h1.objs.length + 1 < x)

theorem unreg_some {h : Hp} {id idm : Nat} {a b : List (Int × Line)} {pa pb : List (Nat × List Nat)} {k : Int} {l : Line} {p : Nat} {fp : List Nat} {cf : Conf} (H : DeskAt h id idm (pa ++ (p, fp) :: pb) ⟨cf, a ++ (k, l) :: b⟩) (hla : pa.length = a.length) (hfr : ∀ x ∈ a, x.1 ≠ k) (hl : h.lim ≤ h.objs.length)
    {s : Int} {c : Cmd} {o : EV} (hk : c.kind = 3) (hid : c.id = k) (hbr : l.row.length < 1000000) (hbf : (allRefs l.row).length < 1000000) :
    WA (do0 (doArgs id s c o) h) fun v h' => ∃ r fr, v = .tup [.agg [eI 0, eI 0, .full []], r] ∧ Own h' 2 true r (refCells (allRefs l.row)) fr ∧ Grown [] h fr ∧
      Fwd [idm] h h' ∧ DeskAt h' id idm (pa ++ pb) ⟨cf, a ++ b⟩ := by
  refine do_run rfl ?_
  have l1 := arr_lt H.top
  have l2 := map_lt H.map
  have top := H.top
  simp only [Conf.cells, List.cons_append, List.nil_append] at top
  have hL : LineAt h p l fp := H.lines pa.length k l p fp (by simp [hla]) (by simp)
  obtain ⟨⟨v, ha, ho⟩, hlim⟩ := hL
  have l3 := arr_lt ha
  have elen' : ∀ h1 : Hp, lenOf 0 v h1 = some l.row.length := by
    intro h1
    have e := els_len ho.els
    simp at e
    unfold lenOf at e ⊢
    split at e <;> simp_all
  simp [doArgs, Cmd.cells, hk, Ends, d_qDo, top, H.map, nl l1, nl l2, nl l3, lk hl]
  rw [mapGet_ok (es := ents (a ++ (k, l) :: b) (pa ++ (p, fp) :: pb)) (by simp [H.map, nl l2]) (by simp [PD.alike]) (ents_alike _ _ _), hid, ents_some hla hfr]
  simp [Ends, nl l1, nl l2, nl l3, lk hl, ha, elen']
  refine Run_loop (fun q f h' => ∃ i, i ≤ l.row.length ∧ q = l.row.length - i ∧ ULoop h id k v l.row i f h') (n := l.row.length) ?_ ?_
  · refine ⟨0, Nat.zero_le _, rfl, ⟨by simp, by simp, by simp, by simp, by simp, by simp, by repeat first | exact Fwd.refl _ _ | refine Fwd.new ?_ _, by simp, ⟨⟨3, k, c.n, c.t, c.k, c.a, c.b, c.c, c.d, c.slot, c.gen, c.tab, c.ta, c.tb⟩, rfl, by simp [Cmd.cells]⟩, by simp, _, [h.objs.length + 3], by simp; rfl, ?_, by simp⟩⟩
    have key := Own.empty (hh := ((((h.new (.cells ⟨0, 14, true, 0, [[eI 3, eI k, eI c.n, eI c.t, eI c.k, eI c.a, eI c.b, eI c.c, eI c.d, eI c.slot, eI c.gen, .p (.list c.tab), eI c.ta, eB c.tb]]⟩)).new (.cells ⟨0, 3, true, 0, [[eI 0, eI 0, .full []]]⟩)).new (.cells ⟨0, 2, true, 0, []⟩)).new (.cells ⟨0, 2, true, 0, []⟩))) (i := h.objs.length + 3) (sz := 2) (ag := true) false (by simp) (by simp; omega)
    simpa [refCells, allRefs] using key
  rintro q f2 h2 ⟨i, hi, rfl, L⟩
  obtain ⟨r, fr, g11, or, lr⟩ := L.own
  obtain ⟨cc, hcc, box⟩ := L.box
  have ap := L.fw.arr ha (by simp)
  have l12 := arr_lt (L.fw.arr H.top (by simp))
  have lbox := arr_lt box
  have lans := arr_lt L.ans
  have hl2 : h2.lim ≤ h2.objs.length := L.fw.limlen hl
  have lm2 := L.fw.lim
  by_cases hlt : i < l.row.length
  · obtain ⟨x, hx⟩ : ∃ x, l.row[i]? = some x := ⟨_, List.getElem?_eq_getElem (by omega)⟩
    have hel : (l.row.map Fnd.cells)[i]? = some x.cells := by
      rw [List.getElem?_map, hx]; rfl
    obtain ⟨q, q1, q2⟩ := els_get (els_fwd ho.els L.fw) hel rfl .i64
    have etk : l.row.take (i + 1) = l.row.take i ++ [x] := by rw [List.take_add_one, hx]; rfl
    have rl : (allRefs (l.row.take i)).length + x.refs.length ≤ (allRefs l.row).length := by
      have e : l.row = l.row.take (i + 1) ++ l.row.drop (i + 1) := (List.take_append_drop _ _).symm
      rw [etk] at e
      conv => rhs; rw [e]
      simp [allRefs]
    simp only [Fnd.cells] at q2
    simp [L.g0, L.g6, L.g8, L.g57, L.g58, L.g59, g11, hlt, q1, q2, lk hl2]
    refine PutA_of ((or.fwd (ids := []) (by repeat first | exact Fwd.refl _ _ | refine Fwd.set ?_ _ (by simp) | refine Fwd.new ?_ _) (by simp)).append (x := .p (.list (x.refs.map rPD))) (ys := refCells x.refs) (refs_els _ _) (by simp [refCells]; omega) (by simp; omega)) ?_
    rintro r2 h4 ⟨fr2, or2, f4, gr4⟩
    have f24 : Fwd fr h2 h4 := Fwd.trans (Fwd.mono (ids := []) (by repeat first | exact Fwd.refl _ _ | refine Fwd.set ?_ _ (by simp) | refine Fwd.new ?_ _) (by simp)) f4
    have ln4 := f24.len
    have wi : IntKind.wrap .i64 ((i : Int) + 1) = (i : Int) + 1 := wrap64 (by omega) (by omega)
    simp [wi]
    refine ⟨l.row.length - (i + 1), by omega, i + 1, by omega, rfl, ⟨by simp, by simp, by simp, by simp, by simp, by simp, ?_, by have := L.len; omega, ⟨cc, hcc, f24.arr box fun q => by have := lr _ q; omega⟩, f24.arr L.ans fun q => by have := lr _ q; omega, r2, fr2, by simp, ?_, ?_⟩⟩
    · exact L.fw.trans' f24 fun y hy => .inr (by have := lr y hy; omega)
    · have e : refCells (allRefs (l.row.take (i + 1))) = refCells (allRefs (l.row.take i)) ++ refCells x.refs := by rw [etk]; simp [refCells, allRefs]
      rw [e]
      exact or2
    · intro y hy
      rcases gr4 y hy with q | q
      · exact lr y q
      · simp at q; have := L.len; omega
  · have : i = l.row.length := by omega
    subst this
    have top2 := L.fw.arr H.top (by simp)
    have map2 := L.fw.map H.map (by simp)
    have lmap2 := map_lt map2
    simp only [Conf.cells, List.cons_append, List.nil_append] at top2
    simp only [Cmd.cells, hcc] at box
    simp [L.g0, L.g6, L.g8, L.g57, L.g58, L.g59, g11, top2, box, nl l12]
    rw [mapDel_ok (es := ents (a ++ (k, l) :: b) (pa ++ (p, fp) :: pb)) map2 (by simp [PD.alike]) (ents_alike _ _ _) (by rw [lm2]; exact H.lim.2), ents_del hla hfr]
    have nb : h.objs.length + 1 ≠ idm := by omega
    have hl4 : h.lim ≤ h.objs.length + 1 := by omega
    simp [L.ans, nb, ones, lm2, hl4, Ends, lans, nl lans]
    rw [Hp.back_of lm2]
    rw [List.take_length] at or
    have F : Fwd [idm, h.objs.length + 1] h2 ((h2.setMap idm (ents (a ++ b) (pa ++ pb))).setArr (h.objs.length + 1) ⟨0, 3, true, 0, [[eI 0, eI 0, .full []]]⟩) := ((Fwd.refl _ _).setMap _ (by simp)).set _ (by simp)
    have F2 : Fwd [idm] h ((h2.setMap idm (ents (a ++ b) (pa ++ pb))).setArr (h.objs.length + 1) ⟨0, 3, true, 0, [[eI 0, eI 0, .full []]]⟩) := (L.fw.mono (by simp)).trans' F fun y hy => by
      simp at hy
      rcases hy with rfl | rfl
      · exact .inl (by simp)
      · exact .inr (by omega)
    refine ⟨fr, or.fwd F fun y hy q => ?_, fun y hy => .inr (by have := lr y hy; omega), F2, H.del hla F2 ?_⟩
    · have := lr y hy
      simp at q
      omega
    · have nb2 : idm ≠ h.objs.length + 1 := fun e => nb e.symm
      simp [nb2, lmap2]

end Dk.Q
