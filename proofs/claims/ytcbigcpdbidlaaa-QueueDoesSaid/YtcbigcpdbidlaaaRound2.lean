/- All hits come: the rounds of publish. -/
import Derived.Test.YtcbigcpdbidlaaaRound
set_option linter.unusedVariables false
set_option linter.unusedSimpArgs false
set_option linter.unusedSectionVars false
namespace Dk.Q
open Go Dk

/-- Hits, one behind the other. -/
inductive HitsDo (o : Int) : List Hit → List (Int × Line) → List (Int × Line) → List (Int × Int) → Prop
  | nil {ls} : HitsDo o [] ls ls []
  | snoc {xs x ls ls' ls'' R r} : HitsDo o xs ls ls' R → HitDoes o x ls' ls'' r → HitsDo o (xs ++ [x]) ls ls'' (R ++ r)

/-- Whoever has a line by its number, or nobody. -/
theorem split_line (k : Int) : ∀ ls : List (Int × Line), (∀ l ∈ ls, l.1 ≠ k) ∨ ∃ a l b, ls = a ++ (k, l) :: b ∧ ∀ y ∈ a, y.1 ≠ k
  | [] => .inl (by simp)
  | (k', l) :: r => by
    by_cases h : k' = k
    · subst h
      exact .inr ⟨[], l, r, rfl, by simp⟩
    · rcases split_line k r with q | ⟨a, l', b, rfl, q⟩
      · exact .inl fun y hy => by
          rcases List.mem_cons.1 hy with rfl | hy
          · exact h
          · exact q y hy
      · exact .inr ⟨(k', l) :: a, l', b, rfl, fun y hy => by
          rcases List.mem_cons.1 hy with rfl | hy
          · exact h
          · exact q y hy⟩
theorem split_ps {ps : List (Nat × List Nat)} {n : Nat} (h : n < ps.length) : ∃ pa p fp pb, ps = pa ++ (p, fp) :: pb ∧ pa.length = n :=
  ⟨ps.take n, ps[n].1, ps[n].2, ps.drop (n + 1), by
    have : (ps[n].1, ps[n].2) = ps[n] := rfl
    rw [this, List.getElem_cons_drop, List.take_append_drop], by simp; omega⟩

/-- Where publish stands behind some hits: the desk; what is let go; what it reads. -/
structure PubAt (cf : Conf) (ls0 : List (Int × Line)) (id idm b3 b7 b8 Y B : Nat) (keep : Fr) (xs : List Hit) (i : Nat) (fp : List Nat) (h : Hp) : Prop where
  is : ∃ ls ps R v fr, fp = (own id idm ps ++ b7 :: fr) ++ [b3, b8, Y] ∧ DeskAt h id idm ps ⟨cf, ls⟩ ∧ HitsDo cf.o (xs.take i) ls0 ls R ∧ h.arr b7 0 = some ⟨0, 1, false, 0, [[v]]⟩ ∧ Own h 2 true v (refCells R) fr ∧ R.length ≤ i * B ∧
    (∀ y ∈ ls, (y.2.row.length : Int) ≤ cf.o) ∧ (own id idm ps ++ b7 :: fr).Nodup ∧ (∀ y ∈ own id idm ps ++ b7 :: fr, y ≠ b3 ∧ y ≠ b8 ∧ y ≠ Y)
  a3 : h.arr b3 0 = some ⟨0, 1, false, 0, [[.ptr id 0 0 0]]⟩
  a8 : h.arr b8 0 = some ⟨0, 1, false, 0, [[.fn (.func n_publish1) [] [.ptr b7 0 0 0]]]⟩
  y : h.loopOf Y = some ⟨[38], ra_publish0, rb_publish0, keep, .ready⟩
  lim : h.lim ≤ b7 ∧ h.lim ≤ Y ∧ h.lim ≤ h.objs.length
theorem noY : progOf progList yieldNo = none := by kernel_rfl
theorem pub_rounds {cf : Conf} {ls0 : List (Int × Line)} {id idm b3 b7 b8 Y B : Nat} {keep : Fr} {xs : List Hit} (k3 : keep.get 3 = .ptr b3 0 0 0) (k8 : keep.get 8 = .ptr b8 0 0 0) (hB : ∀ x ∈ xs, x.f.refs.length ≤ B) (hbig : (xs.length + 1) * B < 1000000) (ho : cf.o ≤ 4096) :
    Rounds C0 Y (xs.map fun x => [x.ev]) (PubAt cf ls0 id idm b3 b7 b8 Y B keep xs) (fun _ _ => False) := by
  refine ⟨fun i fp h I y hy => ?_, fun _ _ h => h.elim, fun i fp ids h h' I f hi => ?_, fun _ _ _ _ h => h.elim, fun i args fp h hx I => ?_⟩
  · obtain ⟨⟨ls, ps, R, v, fr, rfl, H, -, a7, O, -⟩, a3, a8, hy', -⟩ := I
    simp only [List.mem_append, List.mem_cons, List.not_mem_nil, or_false] at hy
    rcases hy with (q | rfl | q) | rfl | rfl | rfl
    · exact H.lt y q
    · exact arr_lt a7
    · exact O.lt y q
    · exact arr_lt a3
    · exact arr_lt a8
    · exact loop_lt hy'
  · obtain ⟨⟨ls, ps, R, v, fr, rfl, H, q1, a7, O, q2, q3, q4, q5⟩, a3, a8, hy', l1, l2, l3⟩ := I
    have hi' : ∀ y, y ∈ (own id idm ps ++ b7 :: fr) ++ [b3, b8, Y] → y ∉ ids := fun y hy q => hi y q hy
    refine ⟨⟨ls, ps, R, v, fr, rfl, H.fwd f (fun y hy q => hi y hy (by simp [q])), q1, f.arr a7 (hi' _ (by simp)), O.fwd f (fun y hy => hi' y (by simp [hy])), q2, q3, q4, q5⟩, f.arr a3 (hi' _ (by simp)), f.arr a8 (hi' _ (by simp)), f.loop hy' (hi' _ (by simp)), by rw [f.lim]; exact l1, by rw [f.lim]; exact l2, f.limlen l3⟩
  · obtain ⟨⟨ls, ps, R, v, fr, rfl, H, q1, a7, O, q2, q3, q4, q5⟩, a3, a8, hy', l1, l2, l3⟩ := I
    simp only [List.getElem?_map, Option.map_eq_some_iff] at hx
    obtain ⟨x, hx, rfl⟩ := hx
    refine call_Round noExt_mono noY hy' l2 rfl ?_
    simp only [ra_publish0]
    simp [Hit.ev, ones, l3]
    obtain ⟨X1, hX1⟩ : ∃ X1, X1 = (h.new (.cells ⟨0, 3, true, 0, [[eI 0, .full [], .full []]]⟩)).setArr h.objs.length ⟨0, 3, true, 0, [[eI x.id, .p (.list x.f.sets), .p (.list (x.f.refs.map rPD))]]⟩ := ⟨_, rfl⟩
    rw [← hX1]
    have FX : Fwd [] h X1 := by rw [hX1]; exact ((Fwd.refl [] h).new _).set _ (.inr (Nat.le_refl _))
    have a12 : X1.arr h.objs.length 0 = some ⟨0, 3, true, 0, [x.ev.cells]⟩ := by rw [hX1]; simp [Hp.arr_set, Hit.ev]
    clear hX1
    refine ⟨FX.loop hy' (by simp), fun h2 f2 hY2 hlen2 => ?_⟩
    have lY := loop_lt hy'
    have F2 : Fwd [Y] h h2 := (FX.mono (by simp)).trans f2
    have h12 := f2.arr a12 (by simp; omega)
    have nY : ∀ y ∈ own id idm ps ++ b7 :: fr, y ∉ [Y] := fun y hy q => by simp at q; exact (q5 y hy).2.2 q
    have n3Y : b3 ∉ [Y] := fun q => by
      simp at q
      subst q
      have h1 := loopOf_iff.1 hy'
      unfold Hp.arr at a3
      rw [h1] at a3
      simp at a3
    have n8Y : b8 ∉ [Y] := fun q => by
      simp at q
      subst q
      have h1 := loopOf_iff.1 hy'
      unfold Hp.arr at a8
      rw [h1] at a8
      simp at a8
    have H2 := H.fwd F2 (fun y hy q => by simp at hy; subst hy; exact (q5 _ (List.mem_append_left _ q)).2.2 rfl)
    have a72 := F2.arr a7 (nY _ (by simp))
    have O2 := O.fwd F2 (fun y hy => nY y (by simp [hy]))
    have a32 := F2.arr a3 n3Y
    have a82 := F2.arr a8 n8Y
    have L2 : h2.lim = h.lim := F2.lim
    have hi : i < xs.length := (List.getElem?_eq_some_iff.1 hx).1
    have hxm : x ∈ xs := List.mem_of_getElem? hx
    have hbx := hB x hxm
    have hb1 : R.length + x.f.refs.length ≤ (i + 1) * B := by rw [Nat.add_mul]; omega
    have hb2 : (i + 1) * B ≤ (xs.length + 1) * B := Nat.mul_le_mul_right _ (by omega)
    have htake : xs.take (i + 1) = xs.take i ++ [x] := by
      rw [List.take_add_one, hx]; rfl
    have l3b := arr_lt a32
    have l8b := arr_lt a82
    have lYb := loop_lt hY2
    have fin : ∀ {ls' : List (Int × Line)} {ps' : List (Nat × List Nat)} {r' : List (Int × Int)} {v' : EV} {fr' : List Nat} {h3 : Hp}, DeskAt h3 id idm ps' ⟨cf, ls'⟩ → HitDoes cf.o x ls ls' r' → r'.length ≤ x.f.refs.length → h3.arr b7 0 = some ⟨0, 1, false, 0, [[v']]⟩ → Own h3 2 true v' (refCells (R ++ r')) fr' →
        Fwd (own id idm ps ++ b7 :: fr) h2 h3 → (∀ y ∈ own id idm ps' ++ b7 :: fr', y ∈ own id idm ps ++ b7 :: fr ∨ h2.objs.length ≤ y) → (own id idm ps' ++ b7 :: fr').Nodup → (∀ y ∈ ls', (y.2.row.length : Int) ≤ cf.o) →
        h3.loopOf Y = some ⟨[38], ra_publish0, rb_publish0, keep, .busy⟩ ∧ ∀ h4, Fwd [Y] h3 h4 → h4.loopOf Y = some ⟨[38], ra_publish0, rb_publish0, keep, .ready⟩ → h4.objs.length = h3.objs.length →
          Fwd (own id idm ps ++ b7 :: (fr ++ [b3, b8, Y])) h h4 ∧ ∃ fp', (∀ y, y ∈ fp' → (y ∈ own id idm ps ∨ y = b7 ∨ y ∈ fr ∨ y = b3 ∨ y = b8 ∨ y = Y) ∨ h.objs.length ≤ y) ∧ PubAt cf ls0 id idm b3 b7 b8 Y B keep xs (i + 1) fp' h4 := by
      intro ls' ps' r' v' fr' h3 D1 D2 D3 D4 D5 f3 D6 D7 D8
      have n3 : b3 ∉ own id idm ps ++ b7 :: fr := fun q => (q5 _ q).1 rfl
      have n8 : b8 ∉ own id idm ps ++ b7 :: fr := fun q => (q5 _ q).2.1 rfl
      have nY3 : Y ∉ own id idm ps ++ b7 :: fr := fun q => (q5 _ q).2.2 rfl
      refine ⟨f3.loop hY2 nY3, fun h4 f4 hY4 _ => ?_⟩
      have hle : h.objs.length ≤ h2.objs.length := F2.len
      have q5' : ∀ y ∈ own id idm ps' ++ b7 :: fr', y ≠ b3 ∧ y ≠ b8 ∧ y ≠ Y := fun y hy => by
        rcases D6 y hy with q | q
        · exact q5 y q
        · exact ⟨by omega, by omega, by omega⟩
      have nY4 : ∀ y ∈ own id idm ps' ++ b7 :: fr', y ∉ [Y] := fun y hy q => by simp at q; exact (q5' y hy).2.2 q
      have a33 := f3.arr a32 n3
      have a83 := f3.arr a82 n8
      have FA : Fwd (own id idm ps ++ b7 :: (fr ++ [b3, b8, Y])) h h4 := by
        refine ((F2.mono (ids' := own id idm ps ++ b7 :: (fr ++ [b3, b8, Y])) (by simp)).trans (f3.mono ?_)).trans (f4.mono (by simp))
        intro y hy
        rcases List.mem_append.1 hy with q | q
        · exact List.mem_append_left _ q
        · rcases List.mem_cons.1 q with rfl | q
          · simp
          · exact List.mem_append_right _ (List.mem_cons_of_mem _ (List.mem_append_left _ q))
      refine ⟨FA, (own id idm ps' ++ b7 :: fr') ++ [b3, b8, Y], fun y hy => ?_, ⟨⟨ls', ps', R ++ r', v', fr', rfl, D1.fwd f4 (fun y hy q => nY4 y (List.mem_append_left _ q) hy), by rw [htake]; exact .snoc q1 D2, f4.arr D4 (nY4 _ (by simp)), D5.fwd f4 (fun y hy => nY4 y (by simp [hy])), by rw [List.length_append, Nat.add_mul]; omega, D8, D7, q5'⟩, f4.arr a33 n3Y, f4.arr a83 n8Y, hY4, by rw [FA.lim]; exact l1, by rw [FA.lim]; exact l2, FA.limlen l3⟩⟩
      rcases List.mem_append.1 hy with q | q
      · rcases D6 y q with q | q
        · rcases List.mem_append.1 q with q | q
          · exact .inl (.inl q)
          · rcases List.mem_cons.1 q with q | q
            · exact .inl (.inr (.inl q))
            · exact .inl (.inr (.inr (.inl q)))
        · exact .inr (by omega)
      · simp at q
        exact .inl (.inr (.inr (.inr q)))
    obtain ⟨nd1, nd2, nd3⟩ := List.nodup_append.1 q4
    have hb7 : b7 ∉ fr := (List.nodup_cons.1 nd2).1
    have dis : ∀ y ∈ b7 :: fr, y ∉ own id idm ps := fun y hy q => nd3 y q y hy rfl
    have ndF : ∀ fr', Grown fr h2 fr' → fr'.Nodup → b7 ∉ fr' → (own id idm ps ++ b7 :: fr').Nodup := fun fr' gr n1 n2 => by
      refine List.nodup_append.2 ⟨nd1, List.nodup_cons.2 ⟨n2, n1⟩, fun y hy z hz e => ?_⟩
      subst e
      rcases List.mem_cons.1 hz with rfl | hz
      · exact dis _ (by simp) hy
      · rcases gr y hz with q | q
        · exact dis _ (by simp [q]) hy
        · have := H2.lt y hy
          omega
    have grF : ∀ fr', Grown fr h2 fr' → ∀ y ∈ own id idm ps ++ b7 :: fr', y ∈ own id idm ps ++ b7 :: fr ∨ h2.objs.length ≤ y := fun fr' gr y hy => by
      rcases List.mem_append.1 hy with q | q
      · exact .inl (List.mem_append_left _ q)
      · rcases List.mem_cons.1 q with rfl | q
        · exact .inl (by simp)
        · exact (gr y q).imp (fun q => by simp [q]) fun q => q
    have lb7 : h2.lim ≤ b7 := by rw [L2]; exact l1
    have hbd : R.length + x.f.refs.length < 1000000 := by omega
    have hl2 : h2.lim ≤ h2.objs.length := F2.limlen l3
    rcases split_line x.id ls with hno | ⟨a, l, b, rfl, hfr⟩
    · refine hit_body_none H2 (by simp [k3]) (by simp [k8]) (by simp) a32 a82 h12 a72 O2 hb7 lb7 hbd hno fun f' h3 v' fr' c1 c2 c3 c4 c5 => ?_
      obtain ⟨z1, z2⟩ := fin (H2.fwd c4 dis) (.none hno) (Nat.le_refl _) c1 c2 (c4.mono fun y hy => List.mem_append_right _ hy) (grF fr' c3) (ndF fr' c3 c2.nodup c5) q3
      exact ⟨z1, fun h4 f4 hY4 hl4 => by obtain ⟨y1, fp', y2, y3⟩ := z2 h4 f4 (by rw [if_pos rfl] at hY4; exact hY4) hl4; exact ⟨y1, fp', y2, rfl, y3⟩⟩
    · obtain ⟨pa, p, fp, pb, rfl, hla⟩ := split_ps (ps := ps) (n := a.length) (by rw [H.len]; simp)
      have hpo : p ∈ own id idm (pa ++ (p, fp) :: pb) := own_mem.2 (.inr (.inr ⟨(p, fp), by simp, .inl rfl⟩))
      have hfo : ∀ y ∈ fp, y ∈ own id idm (pa ++ (p, fp) :: pb) := fun y hy => own_mem.2 (.inr (.inr ⟨(p, fp), by simp, .inr hy⟩))
      have hpf : ∀ y ∈ p :: fp, y ∈ own id idm (pa ++ (p, fp) :: pb) := fun y hy => by
        rcases List.mem_cons.1 hy with rfl | hy
        · exact hpo
        · exact hfo y hy
      cases hlo : l.lost with
      | true =>
        refine hit_body_lost H2 hla (by simp [k3]) (by simp [k8]) (by simp) a32 a82 h12 hfr hlo a72 O2 hb7 lb7 hbd fun f' h3 v' fr' c1 c2 c3 c4 c5 => ?_
        obtain ⟨z1, z2⟩ := fin (H2.fwd c4 dis) (.lost hfr hlo) (Nat.le_refl _) c1 c2 (c4.mono fun y hy => List.mem_append_right _ hy) (grF fr' c3) (ndF fr' c3 c2.nodup c5) q3
        exact ⟨z1, fun h4 f4 hY4 hl4 => by obtain ⟨y1, fp', y2, y3⟩ := z2 h4 f4 (by rw [if_pos rfl] at hY4; exact hY4) hl4; exact ⟨y1, fp', y2, rfl, y3⟩⟩
      | false =>
        have hrl := q3 (x.id, l) (by simp)
        by_cases hle : cf.o ≤ (l.row.length : Int)
        · refine hit_body_full H2 hla (by simp [k3]) (by simp [k8]) (by simp) a32 a82 h12 hfr hlo hle a72 O2 hb7 lb7 hbd ⟨fun e => dis b7 (by simp) (e ▸ hpo), fun q => dis p (by simp [q]) hpo, (q5 p (List.mem_append_left _ hpo)).2.1, fun e => by have := H.lt p hpo; omega⟩ (fun f' h3 v' fr' c0 c1 c2 c3 c4 c5 => ?_) ⟨dis b7 (by simp), fun y hy => dis y (by simp [hy])⟩
          obtain ⟨z1, z2⟩ := fin c0 (.full hfr hlo hle) (Nat.le_refl _) c1 c2 (c4.mono fun y hy => by
            rcases List.mem_cons.1 hy with rfl | hy
            · exact List.mem_append_left _ hpo
            · exact List.mem_append_right _ hy) (grF fr' c3) (ndF fr' c3 c2.nodup c5) (fun y hy => by
            rcases List.mem_append.1 hy with q | q
            · exact q3 y (by simp [q])
            · rcases List.mem_cons.1 q with rfl | q
              · exact hrl
              · exact q3 y (by simp [q]))
          exact ⟨z1, fun h4 f4 hY4 hl4 => by obtain ⟨y1, fp', y2, y3⟩ := z2 h4 f4 (by rw [if_pos rfl] at hY4; exact hY4) hl4; exact ⟨y1, fp', y2, rfl, y3⟩⟩
        · have hlt : (l.row.length : Int) < cf.o := by omega
          refine hit_body_kept H2 hla (by simp [k3]) (by simp [k8]) (by simp) a32 a82 h12 hfr hlo hlt hl2 (by omega) fun f' h3 fp' c1 c2 c3 => ?_
          have gown : ∀ y ∈ own id idm (pa ++ (p, fp') :: pb), y ∈ own id idm (pa ++ (p, fp) :: pb) ∨ h2.objs.length ≤ y := fun y hy => by
            rcases own_mem.1 hy with rfl | rfl | ⟨z, hz, hy⟩
            · exact .inl (by simp [own])
            · exact .inl (by simp [own])
            · rcases List.mem_append.1 hz with q | q
              · exact .inl (own_mem.2 (.inr (.inr ⟨z, by simp [q], hy⟩)))
              · rcases List.mem_cons.1 q with rfl | q
                · rcases hy with rfl | hy
                  · exact .inl hpo
                  · exact (c2 y hy).imp (fun q => hfo y q) fun q => q
                · exact .inl (own_mem.2 (.inr (.inr ⟨z, by simp [q], hy⟩)))
          have n7 : ∀ y ∈ b7 :: fr, y ∉ p :: fp := fun y hy q => dis y hy (hpf y q)
          obtain ⟨z1, z2⟩ := fin (r' := []) c1 (.kept hfr hlo hlt) (Nat.zero_le _) (c3.arr a72 (n7 b7 (by simp))) (by rw [List.append_nil]; exact O2.fwd c3 fun y hy => n7 y (by simp [hy])) (c3.mono fun y hy => List.mem_append_left _ (hpf y hy)) (fun y hy => by
            rcases List.mem_append.1 hy with q | q
            · exact (gown y q).imp (fun q => List.mem_append_left _ q) fun q => q
            · exact .inl (List.mem_append_right _ q)) (List.nodup_append.2 ⟨c1.dis, nd2, fun y hy z hz e => by
              subst e
              rcases gown y hy with q | q
              · exact dis y hz q
              · rcases List.mem_cons.1 hz with rfl | hz
                · have := arr_lt a72; omega
                · have := O2.lt y hz; omega⟩) (fun y hy => by
            rcases List.mem_append.1 hy with q | q
            · exact q3 y (by simp [q])
            · rcases List.mem_cons.1 q with rfl | q
              · simp; omega
              · exact q3 y (by simp [q]))
          exact ⟨z1, fun h4 f4 hY4 hl4 => by obtain ⟨y1, fp', y2, y3⟩ := z2 h4 f4 (by rw [if_pos rfl] at hY4; exact hY4) hl4; exact ⟨y1, fp', y2, rfl, y3⟩⟩
end Dk.Q
