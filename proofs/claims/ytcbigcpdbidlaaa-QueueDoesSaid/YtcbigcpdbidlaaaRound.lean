/- A hit comes: one round of publish. -/
import Derived.Test.YtcbigcpdbidlaaaPub
set_option linter.unusedVariables false
set_option linter.unusedSimpArgs false
set_option linter.unusedSectionVars false
namespace Dk.Q
open Go Dk

/-- What a hit does to the lines, and what is let go. -/
inductive HitDoes (o : Int) (x : Hit) : List (Int × Line) → List (Int × Line) → List (Int × Int) → Prop
  | none {ls} : (∀ l ∈ ls, l.1 ≠ x.id) → HitDoes o x ls ls x.f.refs
  | lost {a b l} : (∀ y ∈ a, y.1 ≠ x.id) → l.lost = true → HitDoes o x (a ++ (x.id, l) :: b) (a ++ (x.id, l) :: b) x.f.refs
  | full {a b l} : (∀ y ∈ a, y.1 ≠ x.id) → l.lost = false → o ≤ l.row.length → HitDoes o x (a ++ (x.id, l) :: b) (a ++ (x.id, ⟨l.row, true⟩) :: b) x.f.refs
  | kept {a b l} : (∀ y ∈ a, y.1 ≠ x.id) → l.lost = false → (l.row.length : Int) < o → HitDoes o x (a ++ (x.id, l) :: b) (a ++ (x.id, ⟨l.row ++ [x.f], false⟩) :: b) []

theorem hit_body_none {h : Hp} {id idm b3 b7 b8 b12 : Nat} {ps : List (Nat × List Nat)} {d : Desk} {x : Hit} {v : EV} {R : List (Int × Int)} {fr : List Nat} {f : Fr} {Q : Ex → Fr → Hp → Prop}
    (H : DeskAt h id idm ps d) (g3 : f.get 3 = .ptr b3 0 0 0) (g8 : f.get 8 = .ptr b8 0 0 0) (g12 : f.get 12 = .ptr b12 0 0 0)
    (h3 : h.arr b3 0 = some ⟨0, 1, false, 0, [[.ptr id 0 0 0]]⟩) (h8 : h.arr b8 0 = some ⟨0, 1, false, 0, [[.fn (.func n_publish1) [] [.ptr b7 0 0 0]]]⟩) (h12 : h.arr b12 0 = some ⟨0, 3, true, 0, [x.ev.cells]⟩)
    (h7 : h.arr b7 0 = some ⟨0, 1, false, 0, [[v]]⟩) (hO : Own h 2 true v (refCells R) fr) (hn : b7 ∉ fr) (hl7 : h.lim ≤ b7) (hbd : R.length + x.f.refs.length < 1000000)
    (hx : ∀ l ∈ d.lines, l.1 ≠ x.id)
    (hQ : ∀ f' h' v' fr', h'.arr b7 0 = some ⟨0, 1, false, 0, [[v']]⟩ → Own h' 2 true v' (refCells (R ++ x.f.refs)) fr' → Grown fr h fr' → Fwd (b7 :: fr) h h' → b7 ∉ fr' → Q .normal f' h') :
    Run C0 [.code rb_publish0] .normal f h Q := by
  have hm := mapGet_ok (ck := .int) (k := iN x.id) (z := .nilp) H.map (by simp [PD.alike]) (ents_alike _ _ _)
  rw [ents_none hx] at hm
  simp only [rb_publish0]
  simp [g3, h3, H.top, Conf.cells, g12, h12, Hit.ev, hm]
  simp [g8, h8, g12, h12, Hit.ev]
  refine PutA_of (gone_ok (fd := x.f) (b := b7) h7 hO hn hl7 hbd) ?_
  rintro _ h' ⟨v', fr', q1, q2, q3, q4, q5⟩
  simp
  exact hQ _ h' v' fr' q1 q2 q3 q4 q5
section
variable {h : Hp} {id idm b3 b7 b8 b12 : Nat} {a b : List (Int × Line)} {pa pb : List (Nat × List Nat)} {l : Line} {p : Nat} {fp : List Nat} {cf : Conf} {x : Hit} {v : EV} {R : List (Int × Int)} {fr : List Nat} {f : Fr} {Q : Ex → Fr → Hp → Prop}
    (H : DeskAt h id idm (pa ++ (p, fp) :: pb) ⟨cf, a ++ (x.id, l) :: b⟩) (hla : pa.length = a.length) (g3 : f.get 3 = .ptr b3 0 0 0) (g8 : f.get 8 = .ptr b8 0 0 0) (g12 : f.get 12 = .ptr b12 0 0 0)
    (h3 : h.arr b3 0 = some ⟨0, 1, false, 0, [[.ptr id 0 0 0]]⟩) (h8 : h.arr b8 0 = some ⟨0, 1, false, 0, [[.fn (.func n_publish1) [] [.ptr b7 0 0 0]]]⟩) (h12 : h.arr b12 0 = some ⟨0, 3, true, 0, [x.ev.cells]⟩)
    (hx : ∀ y ∈ a, y.1 ≠ x.id)
include H hla g3 g8 g12 h3 h8 h12 hx
theorem hit_body_lost (hlo : l.lost = true) (h7 : h.arr b7 0 = some ⟨0, 1, false, 0, [[v]]⟩) (hO : Own h 2 true v (refCells R) fr) (hn : b7 ∉ fr) (hl7 : h.lim ≤ b7) (hbd : R.length + x.f.refs.length < 1000000)
    (hQ : ∀ f' h' v' fr', h'.arr b7 0 = some ⟨0, 1, false, 0, [[v']]⟩ → Own h' 2 true v' (refCells (R ++ x.f.refs)) fr' → Grown fr h fr' → Fwd (b7 :: fr) h h' → b7 ∉ fr' → Q .normal f' h') :
    Run C0 [.code rb_publish0] .normal f h Q := by
  have hm := mapGet_ok (ck := .int) (k := iN x.id) (z := .nilp) H.map (by simp [PD.alike]) (ents_alike _ _ _)
  rw [ents_some hla hx] at hm
  obtain ⟨⟨w, hp, hw⟩, hpl⟩ := H.lines a.length x.id l p fp (by simp) (by simp [← hla])
  simp only [rb_publish0]
  simp [g3, h3, H.top, Conf.cells, g12, h12, Hit.ev, hm, hp, hlo]
  simp [g8, h8, g12, h12, Hit.ev]
  refine PutA_of (gone_ok (fd := x.f) (b := b7) h7 hO hn hl7 hbd) ?_
  rintro _ h' ⟨v', fr', q1, q2, q3, q4, q5⟩
  simp
  exact hQ _ h' v' fr' q1 q2 q3 q4 q5
theorem hit_body_kept (hlo : l.lost = false) (hlen : (l.row.length : Int) < cf.o) (hl : h.lim ≤ h.objs.length) (hsz : l.row.length < 1000000)
    (hQ : ∀ f' h' fp', DeskAt h' id idm (pa ++ (p, fp') :: pb) ⟨cf, a ++ (x.id, ⟨l.row ++ [x.f], false⟩) :: b⟩ → Grown fp h fp' → Fwd (p :: fp) h h' → Q .normal f' h') :
    Run C0 [.code rb_publish0] .normal f h Q := by
  have hm := mapGet_ok (ck := .int) (k := iN x.id) (z := .nilp) H.map (by simp [PD.alike]) (ents_alike _ _ _)
  rw [ents_some hla hx] at hm
  obtain ⟨⟨w, hp, hw⟩, hpl⟩ := H.lines a.length x.id l p fp (by simp) (by simp [← hla])
  have hlw := hw.len
  have h1 := hw.one.2
  have hcmp : ¬ cf.o ≤ (l.row.length : Int) := by omega
  simp only [rb_publish0]
  simp [g3, h3, H.top, Conf.cells, g12, h12, Hit.ev, hm, hp, hlo]
  simp [g3, h3, H.top, Conf.cells, hp, hlw, hcmp, h1, ones, g12, h12, Hit.ev]
  have hd := H.dis
  rw [own_split] at hd
  obtain ⟨d1, d2, d3⟩ := List.nodup_append.1 hd
  obtain ⟨d4, d5, d6⟩ := List.nodup_append.1 d2
  have hpn : p ∉ fp := (List.nodup_cons.1 d4).1
  have lp := arr_lt hp
  have hlw2 : (l.row.map Fnd.cells).length = l.row.length := by simp
  refine PutA_of ((hw.fwd ((Fwd.refl [] _).new _) (by simp)).append (x := .arr h.objs.length 0 2 0 1 true) (ys := [x.f.cells]) (by simp [elsOf, Fnd.cells]) (by simp; omega) (by simp; omega)) ?_
  rintro w' h2 ⟨fp', O2, f2, gr⟩
  have fn : Fwd [] h (h.new (.cells ⟨0, 2, true, 0, [x.f.cells]⟩)) := (Fwd.refl [] _).new _
  have F2 : Fwd fp h h2 := (fn.mono (by simp)).trans' f2 fun y hy => .inl hy
  have gr' : Grown fp h fp' := fun y hy => by
    rcases gr y hy with q | q
    · exact .inl q
    · simp at q; exact .inr (by omega)
  have hp2 := F2.arr hp hpn
  have lp2 := arr_lt hp2
  have npf : p ∉ fp' := fun q => by
    rcases gr' p q with q | q
    · exact hpn q
    · omega
  have lim2 : h2.lim ≤ p := by rw [F2.lim]; exact hpl
  have c2 := O2.one.1
  have n2 := O2.one.2
  simp [hp2, c2, n2, ones, lim2]
  have st : Fwd [p] h2 (h2.setArr p ⟨0, 2, true, 0, [[w', eB l.lost]]⟩) := (Fwd.refl _ _).set _ (.inl (by simp))
  have F3 : Fwd (p :: fp) h (h2.setArr p ⟨0, 2, true, 0, [[w', eB l.lost]]⟩) := (F2.mono (fun y hy => List.mem_cons_of_mem _ hy)).trans' st fun y hy => .inl (by simp at hy; simp [hy])
  have hL : LineAt (h2.setArr p ⟨0, 2, true, 0, [[w', eB l.lost]]⟩) p ⟨l.row ++ [x.f], false⟩ fp' := by
    refine ⟨⟨w', by simp [Hp.arr_set, lp2, hlo], ?_⟩, by simpa using lim2⟩
    have e : (l.row ++ [x.f]).map Fnd.cells = l.row.map Fnd.cells ++ [x.f.cells] := by simp
    rw [e]
    exact O2.fwd st fun y hy q => by simp at q; subst q; exact npf hy

  simp only [hlo] at F3 hL ⊢
  exact hQ _ _ fp' (H.upd hla F3 hL gr') gr' F3
theorem hit_body_full (hlo : l.lost = false) (hlen : cf.o ≤ (l.row.length : Int)) (h7 : h.arr b7 0 = some ⟨0, 1, false, 0, [[v]]⟩) (hO : Own h 2 true v (refCells R) fr) (hn : b7 ∉ fr) (hl7 : h.lim ≤ b7) (hbd : R.length + x.f.refs.length < 1000000)
    (hd7 : p ≠ b7 ∧ p ∉ fr ∧ p ≠ b8 ∧ p ≠ b12)
    (hQ : ∀ f' h' v' fr', DeskAt h' id idm (pa ++ (p, fp) :: pb) ⟨cf, a ++ (x.id, ⟨l.row, true⟩) :: b⟩ → h'.arr b7 0 = some ⟨0, 1, false, 0, [[v']]⟩ → Own h' 2 true v' (refCells (R ++ x.f.refs)) fr' → Grown fr h fr' → Fwd (p :: b7 :: fr) h h' → b7 ∉ fr' → Q .normal f' h')
    (ho : b7 ∉ own id idm (pa ++ (p, fp) :: pb) ∧ ∀ y ∈ fr, y ∉ own id idm (pa ++ (p, fp) :: pb)) :
    Run C0 [.code rb_publish0] .normal f h Q := by
  have hm := mapGet_ok (ck := .int) (k := iN x.id) (z := .nilp) H.map (by simp [PD.alike]) (ents_alike _ _ _)
  rw [ents_some hla hx] at hm
  obtain ⟨⟨w, hp, hw⟩, hpl⟩ := H.lines a.length x.id l p fp (by simp) (by simp [← hla])
  have hlw := hw.len
  have h1 := hw.one.2
  have hd := H.dis
  rw [own_split] at hd
  obtain ⟨d1, d2, d3⟩ := List.nodup_append.1 hd
  obtain ⟨d4, d5, d6⟩ := List.nodup_append.1 d2
  have hpn : p ∉ fp := (List.nodup_cons.1 d4).1
  have lp := arr_lt hp
  obtain ⟨e7, e7f, e8, e12⟩ := hd7
  have n8 := Ne.symm e8
  have n12 := Ne.symm e12
  simp only [rb_publish0]
  simp [g3, h3, H.top, Conf.cells, g12, h12, Hit.ev, hm, hp, hlo]
  simp [g3, h3, H.top, Conf.cells, hp, hlw, hlen, h1, ones, g12, h12, g8, hpl, Hit.ev, h8, n8, n12]
  have st : Fwd [p] h (h.setArr p ⟨0, 2, true, 0, [[w, eB true]]⟩) := (Fwd.refl _ _).set _ (.inl (by simp))
  have h8' := st.arr h8 (by simpa using Ne.symm e8)
  have h12' := st.arr h12 (by simpa using Ne.symm e12)
  have h7' := st.arr h7 (by simpa using Ne.symm e7)
  have hO' := hO.fwd st (fun y hy q => by simp at q; subst q; exact e7f hy)
  have hL : LineAt (h.setArr p ⟨0, 2, true, 0, [[w, eB true]]⟩) p ⟨l.row, true⟩ fp :=
    ⟨⟨w, by simp [Hp.arr_set, lp], hw.fwd st fun y hy q => by simp at q; subst q; exact hpn hy⟩, by simpa using hpl⟩
  have H' := H.upd hla (st.mono (ids' := p :: fp) (by simp)) hL (fun y hy => .inl hy)
  refine PutA_of (gone_ok (fd := x.f) (b := b7) h7' hO' hn (by simpa using hl7) hbd) ?_
  rintro _ h' ⟨v', fr', q1, q2, q3, q4, q5⟩
  simp
  have F : Fwd (p :: b7 :: fr) h h' := (st.mono (ids' := p :: b7 :: fr) (by simp)).trans' q4 fun y hy => .inl (List.mem_cons_of_mem _ hy)
  refine hQ _ h' v' fr' (H'.fwd q4 fun y hy => ?_) q1 q2 (fun y hy => (q3 y hy).imp (fun q => q) fun q => by simpa using q) F q5
  rcases List.mem_cons.1 hy with rfl | hy
  · exact ho.1
  · exact ho.2 y hy
end
end Dk.Q
