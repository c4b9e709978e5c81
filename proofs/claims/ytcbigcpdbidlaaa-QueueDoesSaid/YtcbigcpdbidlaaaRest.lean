/- The rest of what a desk does: it closes; a lost query is asked; hits come. -/
import Derived.Test.YtcbigcpdbidlaaaPubl
import Derived.Test.YtcbigcpdbidlaaaAsk0
set_option linter.unusedVariables false
set_option linter.unusedSimpArgs false
set_option linter.unusedSectionVars false
namespace Dk.Q
open Go Dk

theorem do_close {h : Hp} {id idm : Nat} {ps : List (Nat × List Nat)} {d : Desk} (H : DeskAt h id idm ps d) (hl : h.lim ≤ h.objs.length) {s : Int} {c : Cmd} {o : EV} (hk : c.kind = 5) :
    WA (do0 (doArgs id s c o) h) fun v h' => Tells h h' v 0 s [] ∧ Fwd [] h h' := by
  refine do_run rfl ?_
  have l1 := arr_lt H.top
  simp [doArgs, Cmd.cells, Ends, d_qDo, nl l1, hk, lk hl]
  exact ⟨tells_of (by simp) (by simp; omega) (by omega), by repeat first | exact Fwd.refl _ _ | refine Fwd.set ?_ _ (by simp) | refine Fwd.new ?_ _⟩

theorem poll_lost {h : Hp} {id idm : Nat} {a b : List (Int × Line)} {pa pb : List (Nat × List Nat)} {k : Int} {l : Line} {p : Nat} {fp : List Nat} {cf : Conf} (H : DeskAt h id idm (pa ++ (p, fp) :: pb) ⟨cf, a ++ (k, l) :: b⟩) (hla : pa.length = a.length) (hfr : ∀ x ∈ a, x.1 ≠ k) (hl : h.lim ≤ h.objs.length)
    {c : Cmd} (hn : 1 ≤ c.n) (hid : c.id = k) (hr : l.row = []) (hlost : l.lost = true) :
    WA (C0 n_poll [.ptr id 0 0 0, .agg c.cells] h) fun v h' => Tells h h' v 20 0 [] ∧ Fwd [] h h' := by
  refine call_W noExt_mono (f := n_poll) rfl rfl ?_
  have l1 := arr_lt H.top
  have l2 := map_lt H.map
  have top := H.top
  simp only [Conf.cells, List.cons_append, List.nil_append] at top
  obtain ⟨⟨v, ha, ho⟩, hlim⟩ : LineAt h p l fp := H.lines pa.length k l p fp (by simp [hla]) (by simp)
  have l3 := arr_lt ha
  have e3 : decide (c.n < 1) = false := by simpa using hn
  rw [hr] at ho
  have elen' : ∀ h1 : Hp, lenOf 0 v h1 = some 0 := by
    intro h1
    have e := els_len ho.els
    simp at e
    unfold lenOf at e ⊢
    split at e <;> simp_all
  simp [Cmd.cells, Ends, top, H.map, nl l1, nl l2, nl l3, lk hl]
  rw [mapGet_ok (es := ents (a ++ (k, l) :: b) (pa ++ (p, fp) :: pb)) (by simp [H.map, nl l2]) (by simp [PD.alike]) (ents_alike _ _ _), hid, ents_some hla hfr]
  simp [Ends, nl l1, nl l2, nl l3, lk hl, e3, ha, elen', hlost]
  exact ⟨tells_of (by simp) (by simp; omega) (by omega), by repeat first | exact Fwd.refl _ _ | refine Fwd.set ?_ _ (.inr (by simp)) | refine Fwd.new ?_ _⟩

theorem do_publish {id idm : Nat} {ps : List (Nat × List Nat)} {cf : Conf} {ls : List (Int × Line)} {c : Cmd} {outs : List OutV} {h : Hp} (H : DeskAt h id idm ps ⟨cf, ls⟩) (hl : h.lim ≤ h.objs.length) (hk : c.kind = 1) {s : Int} (hb : outs.length < 1000000) (h0 : 0 < outs.length) {B : Nat}
    (hB : ∀ x ∈ mergeF (total (outs.map OutV.hits)) (outs.map OutV.hits), x.f.refs.length ≤ B) (hbig : ((mergeF (total (outs.map OutV.hits)) (outs.map OutV.hits)).length + 1) * B < 1000000) (ho : cf.o ≤ 4096) (hrow : ∀ y ∈ ls, (y.2.row.length : Int) ≤ cf.o) (hlost : ∀ o ∈ outs, o.lost.length < 1000000) {K : EV → Hp → Prop}
    (hK : ∀ v fr h' ls' ls'' R ps', DeskAt h' id idm ps' ⟨cf, ls''⟩ → HitsDo cf.o (mergeF (total (outs.map OutV.hits)) (outs.map OutV.hits)) ls ls' R → MarksDo (outs.flatMap OutV.lost) ls' ls'' → Own h' 2 true v (refCells (R ++ [(c.slot, c.gen)])) fr → Fwd (own id idm ps) h h' →
      (∀ y ∈ own id idm ps', y ∈ own id idm ps ∨ h.objs.length ≤ y) → (∀ y ∈ fr, (y ∈ own id idm ps ∨ h.objs.length ≤ y) ∧ y ∉ own id idm ps') → (∀ y ∈ ls'', (y.2.row.length : Int) ≤ cf.o) → K (.tup [.agg [eI 0, eI s, .full []], v]) h') :
    WA (do0 (doArgs id s c (.p (.list (outs.map OutV.pd)))) h) K := by
  refine do_run rfl ?_
  simp [doArgs, Cmd.cells, hk, Ends, d_qDo, lk hl]
  obtain ⟨H2, e2⟩ : ∃ X, X = (((h.new (.cells ⟨0, 14, true, 0, [c.cells]⟩)).new (.cells ⟨0, 3, true, 0, [[eI 0, eI 0, .full []]]⟩)).new (.cells ⟨0, 2, true, 0, []⟩)) := ⟨_, rfl⟩
  have F2 : Fwd [] h H2 := by rw [e2]; repeat first | exact Fwd.refl _ _ | refine Fwd.new ?_ _
  have n2 : H2.objs.length = h.objs.length + 3 := by rw [e2]; simp
  have a2 : H2.arr (h.objs.length + 1) 0 = some ⟨0, 3, true, 0, [[eI 0, eI 0, .full []]]⟩ := by rw [e2]; simp
  have key := pub_rows (H.fwd F2 (by simp)) (F2.limlen hl) (c := c) hb h0 hB hbig ho hrow hlost (K := fun v h3 => ∃ fr ls' ls'' R ps', DeskAt h3 id idm ps' ⟨cf, ls''⟩ ∧ HitsDo cf.o (mergeF (total (outs.map OutV.hits)) (outs.map OutV.hits)) ls ls' R ∧ MarksDo (outs.flatMap OutV.lost) ls' ls'' ∧ Own h3 2 true v (refCells (R ++ [(c.slot, c.gen)])) fr ∧ Fwd (own id idm ps) H2 h3 ∧
      (∀ y ∈ own id idm ps', y ∈ own id idm ps ∨ H2.objs.length ≤ y) ∧ (∀ y ∈ fr, (y ∈ own id idm ps ∨ H2.objs.length ≤ y) ∧ y ∉ own id idm ps') ∧ (∀ y ∈ ls'', (y.2.row.length : Int) ≤ cf.o))
    (fun v fr h' ls' ls'' R ps' a b c d e f g i => ⟨fr, ls', ls'', R, ps', a, b, c, d, e, f, g, i⟩)
  simp only [Cmd.cells, hk] at key e2
  rw [← e2]
  refine PutA_of key ?_
  rintro v h3 ⟨fr, ls', ls'', R, ps', H3, q1, q2, q3, f3, q4, q5, q6⟩
  have lt := H.lt
  have nb : h.objs.length + 1 ∉ own id idm ps := fun q => by have := lt _ q; omega
  have a3 := f3.arr a2 nb
  have lm : h3.lim = h.lim := f3.lim.trans F2.lim
  have l3 : h.lim ≤ h.objs.length + 1 := by omega
  have l4 := arr_lt a3
  simp [Ends, a3, ones, lm, l3, l4]
  rw [Hp.back_of lm]
  have F : Fwd [h.objs.length + 1] h3 (h3.setArr (h.objs.length + 1) ⟨0, 3, true, 0, [[eI 0, eI s, .full []]]⟩) := (Fwd.refl _ _).set _ (by simp)
  have nb2 : ∀ y, (y ∈ own id idm ps ∨ H2.objs.length ≤ y) → y ≠ h.objs.length + 1 := fun y hy e => by
    subst e
    rcases hy with q | q
    · exact nb q
    · omega
  refine hK v fr _ ls' ls'' R ps' (H3.fwd F fun x hx q => nb2 _ (q4 _ q) (by simpa using hx)) q1 q2 (q3.fwd F fun y hy q => nb2 _ (q5 y hy).1 (by simpa using q)) ?_ (fun y hy => ?_) (fun y hy => ⟨?_, (q5 y hy).2⟩) q6
  · exact ((F2.mono (by simp)).trans f3).trans' F fun y hy => .inr (by simp at hy; omega)
  · rcases q4 y hy with q | q
    · exact .inl q
    · exact .inr (by omega)
  · rcases (q5 y hy).1 with q | q
    · exact .inl q
    · exact .inr (by omega)

/-- A lost query, asked. -/
theorem do_poll_lost {h : Hp} {id idm : Nat} {a b : List (Int × Line)} {pa pb : List (Nat × List Nat)} {k : Int} {l : Line} {p : Nat} {fp : List Nat} {cf : Conf} (H : DeskAt h id idm (pa ++ (p, fp) :: pb) ⟨cf, a ++ (k, l) :: b⟩) (hla : pa.length = a.length) (hfr : ∀ x ∈ a, x.1 ≠ k) (hl : h.lim ≤ h.objs.length)
    {s : Int} {c : Cmd} {o : EV} (hk : c.kind = 4) (hn : 1 ≤ c.n) (hid : c.id = k) (hr : l.row = []) (hlost : l.lost = true) :
    WA (do0 (doArgs id s c o) h) fun v h' => Tells h h' v 20 0 [] ∧ Fwd [] h h' := by
  refine do_poll hl hk fun h1 f1 hl1 hl2 => ?_
  have H1 := H.fwd f1 (by simp)
  obtain ⟨v, h2, e, hT, f2⟩ := poll_lost H1 hla hfr hl1 hn hid hr hlost
  obtain ⟨r, fr, rfl, ow, g⟩ := hT.is
  refine ⟨_, h2, e, f2.mono (by simp), _, r, rfl, rfl, by simp [ones], fun h3 f3 => ⟨⟨r, fr, rfl, ow.fwd f3 fun x hx q => ?_, fun y hy => ?_⟩, ?_⟩⟩
  · have := f1.len
    simp at q
    rcases g x hx with q2 | q2
    · cases q2
    · omega
  · rcases g y hy with q2 | q2
    · cases q2
    · have := f1.len
      exact .inr (by omega)
  · exact (f1.trans f2).trans' f3 (by simp)
end Dk.Q
