/- All tokens of a text, at D. -/
import Derived.Test.YtalodgghnpnnkaaDoorLex3
import Derived.Test.YtalodgghnpnnkaaDoorShows
import Derived.Test.YtalodgghnpnnkaaDoorQry
set_option linter.unusedVariables false
set_option linter.unusedSimpArgs false
set_option linter.unusedSectionVars false
namespace Dk.M
open Go Dk
variable [Mx]
theorem toks_head {l : List UInt8} {p : Nat} (hp : p ≤ l.length) {t : Tok} {ts : List Tok} (h : (toks p (l.drop p)).1 = t :: ts) :
 ∃ a m : Nat, p ≤ a ∧ a + m ≤ l.length ∧ 0 < m ∧ t.at_ = a ∧ t.text = (l.drop a).take m ∧ ts = (toks (a + m) (l.drop (a + m))).1 ∧ (toks p (l.drop p)).2 = (toks (a + m) (l.drop (a + m))).2 := by
 have hle := runN_le blankB (l.drop p)
 rw [List.length_drop] at hle
 have h2 := toks_skip p (l.drop p)
 rw [List.drop_drop] at h2
 have hz := runN_drop (p := blankB) (l.drop p)
 rw [List.drop_drop] at hz
 generalize ha : p + runN blankB (l.drop p) = a at h2 hz
 cases hc : l.drop a with
 | nil =>
  rw [h2, hc, toks_nil] at h
  cases h
 | cons c r =>
  have hb : blankB c = false := runN_stop (l := l.drop a) (by rw [hz]; exact hc)
  rw [h2, hc] at h ⊢
  cases ht : tokL (c :: r) with
  | none =>
   rw [toks_none a hb ht] at h
   cases h
  | some q =>
   obtain ⟨k, m, x⟩ := q
   have hm := tokL_len ht
   have hcl : (c :: r).length = l.length - a := by rw [← hc]; simp
   rw [toks_some a hb ht] at h ⊢
   simp only [List.cons.injEq] at h
   obtain ⟨h, h3⟩ := h
   refine ⟨a, m, by omega, by omega, hm.1, by rw [← h], by rw [← h, hc], ?_, ?_⟩
   · rw [← h3, ← List.drop_drop, hc]
   · rw [← List.drop_drop, hc]
theorem noY : progOf progList yieldNo = none := by kernel_rfl
def lexKeep (B : Nat) : Fr := [(1, .ptr B 0 0 0), (2, .ptr (B + 1) 0 0 0), (3, .ptr (B + 2) 0 0 0), (4, .ptr (B + 3) 0 0 0), (5, .ptr (B + 4) 0 0 0), (6, .ptr (B + 5) 0 0 0)]
structure LexI (l : List UInt8) (B Y : Nat) (j : Nat) (fp : List Nat) (h : Hp) : Prop where
 ex : ∃ (p : Nat) (v : EV) (fr : List Nat), fp = fr ++ [B, B + 1, B + 2, B + 3, B + 4, B + 5, Y] ∧ p ≤ l.length ∧ j ≤ 200 ∧ (toks 0 l).1.drop j = (toks p (l.drop p)).1 ∧ (toks 0 l).2 = (toks p (l.drop p)).2 ∧ runN blankB (l.drop p) = 0 ∧ Own h 4 true v (((toks 0 l).1.take j).map Tok.cells) fr ∧
  h.arr B 0 = some ⟨0, 1, false, 0, [[.p (.str (mkS l))]]⟩ ∧ h.arr (B + 1) 0 = some ⟨0, 1, false, 0, [[.full []]]⟩ ∧ h.arr (B + 2) 0 = some ⟨0, 1, false, 0, [[eI 0]]⟩ ∧ h.arr (B + 3) 0 = some ⟨0, 1, false, 0, [[eI 0]]⟩ ∧
  h.arr (B + 4) 0 = some ⟨0, 1, false, 0, [[v]]⟩ ∧ h.arr (B + 5) 0 = some ⟨0, 1, false, 0, [[eI p]]⟩ ∧ h.loopOf Y = some ⟨[12], ra_lex_Lex0, rb_lex_Lex0, lexKeep B, .ready⟩ ∧ (∀ y ∈ fr, Y < y) ∧ B + 5 < Y ∧ h.lim ≤ B ∧ h.lim ≤ h.objs.length
structure LexJ (l : List UInt8) (B Y : Nat) (fp : List Nat) (h : Hp) : Prop where
 ex : ∃ t : Tok, fp = [B + 1, B + 2, B + 3, Y] ∧ (toks 0 l).1[200]? = some t ∧
  h.arr (B + 1) 0 = some ⟨0, 1, false, 0, [[.full []]]⟩ ∧ h.arr (B + 2) 0 = some ⟨0, 1, false, 0, [[eI t.at_]]⟩ ∧ h.arr (B + 3) 0 = some ⟨0, 1, false, 0, [[eI 12]]⟩ ∧ h.loopOf Y = some ⟨[12], ra_lex_Lex0, rb_lex_Lex0, lexKeep B, .done .ret⟩
theorem lex_rounds (l : List UInt8) (hs : l.length < 2 ^ 62) (B Y : Nat) : Rounds C0 Y ((toks 0 l).1.map fun t => [.agg t.cells]) (LexI l B Y) (LexJ l B Y) := by
 refine ⟨fun i fp h I y hy => ?_, fun fp h I y hy => ?_, fun i fp ids h h' I f hi => ?_, fun fp ids h h' I f hi => ?_, fun i args fp h hx I => ?_⟩
 · obtain ⟨p, v, fr, rfl, -, -, -, -, -, O, a0, a1, a2, a3, a4, a5, aY, -⟩ := I
   simp only [List.mem_append, List.mem_cons, List.not_mem_nil, or_false] at hy
   rcases hy with q | rfl | rfl | rfl | rfl | rfl | rfl | rfl
   · exact O.lt y q
   · exact arr_lt a0
   · exact arr_lt a1
   · exact arr_lt a2
   · exact arr_lt a3
   · exact arr_lt a4
   · exact arr_lt a5
   · exact loop_lt aY
 · obtain ⟨t, rfl, -, a1, a2, a3, aY⟩ := I
   simp only [List.mem_cons, List.not_mem_nil, or_false] at hy
   rcases hy with rfl | rfl | rfl | rfl
   · exact arr_lt a1
   · exact arr_lt a2
   · exact arr_lt a3
   · exact loop_lt aY
 · obtain ⟨p, v, fr, rfl, p1, p2, p3, p4, p5, O, a0, a1, a2, a3, a4, a5, aY, q1, q2, q3, q4⟩ := I
   have hi' : ∀ y, y ∈ fr ++ [B, B + 1, B + 2, B + 3, B + 4, B + 5, Y] → y ∉ ids := fun y hy q => hi y q hy
   exact ⟨p, v, fr, rfl, p1, p2, p3, p4, p5, O.fwd f (fun y hy => hi' y (by simp [hy])), f.arr a0 (hi' _ (by simp)), f.arr a1 (hi' _ (by simp)), f.arr a2 (hi' _ (by simp)), f.arr a3 (hi' _ (by simp)), f.arr a4 (hi' _ (by simp)), f.arr a5 (hi' _ (by simp)), f.loop aY (hi' _ (by simp)), q1, q2, by rw [f.lim]; exact q3, f.limlen q4⟩
 · obtain ⟨t, rfl, p1, a1, a2, a3, aY⟩ := I
   have hi' : ∀ y, y ∈ [B + 1, B + 2, B + 3, Y] → y ∉ ids := fun y hy q => hi y q hy
   exact ⟨t, rfl, p1, f.arr a1 (hi' _ (by simp)), f.arr a2 (hi' _ (by simp)), f.arr a3 (hi' _ (by simp)), f.loop aY (hi' _ (by simp))⟩
 · obtain ⟨p, v, fr, rfl, p1, p2, p3, p4, p5, O, a0, a1, a2, a3, a4, a5, aY, q1, q2, q3, q4⟩ := I
   simp only [List.getElem?_map, Option.map_eq_some_iff] at hx
   obtain ⟨t, hx, rfl⟩ := hx
   have hil := (List.getElem?_eq_some_iff.1 hx).1
   have hcons : (toks 0 l).1.drop i = t :: (toks 0 l).1.drop (i + 1) := by
    rw [List.drop_eq_getElem_cons hil, (List.getElem?_eq_some_iff.1 hx).2]
   rw [hcons] at p3
   obtain ⟨a, m, r1, r2, r3, r4, r5, r6, r7⟩ := toks_head p1 p3.symm
   have lm : t.text.length = m := by rw [r5]; simp; omega
   have ltk : ((toks 0 l).1.take i).length = i := by simp; omega
   refine call_Round noExt_mono noY aY (by omega) rfl ?_
   simp only [ra_lex_Lex0]
   simp [Tok.cells, ones, lk q4]
   obtain ⟨X1, hX1⟩ : ∃ X1, X1 = (h.new (.cells ⟨0, 4, true, 0, [[eI 0, eI 0, .p (.str (bs [])), eI 0]]⟩)).setArr h.objs.length ⟨0, 4, true, 0, [t.cells]⟩ := ⟨_, rfl⟩
   have e1 : (h.new (.cells ⟨0, 4, true, 0, [[eI 0, eI 0, .p (.str (bs [])), eI 0]]⟩)).setArr h.objs.length ⟨0, 4, true, 0, [[eI t.kind, eI t.at_, .p (.str (mkS t.text)), eI t.n]]⟩ = X1 := by rw [hX1]; rfl
   rw [e1]
   clear e1
   have FX : Fwd [] h X1 := by rw [hX1]; exact ((Fwd.refl [] h).new _).set _ (.inr (Nat.le_refl _))
   have a12 : X1.arr h.objs.length 0 = some ⟨0, 4, true, 0, [t.cells]⟩ := by rw [hX1]; simp [Hp.arr_set, Tok.cells]
   clear hX1
   refine ⟨FX.loop aY (by simp), fun h2 f2 hY2 hlen2 => ?_⟩
   have lY := loop_lt aY
   have F2 : Fwd [Y] h h2 := (FX.mono (by simp)).trans f2
   have nO : ∀ y ∈ fr, y ∉ [Y] := fun y hy q => by simp at q; have := q1 y hy; omega
   have nB : ∀ k, k ≤ 5 → B + k ∉ [Y] := fun k hk q => by simp at q; omega
   have b12 := f2.arr a12 (by simp; omega)
   have O2 := O.fwd F2 nO
   have b0 := F2.arr a0 (nB 0 (by omega))
   have b1 := F2.arr a1 (nB 1 (by omega))
   have b2 := F2.arr a2 (nB 2 (by omega))
   have b3 := F2.arr a3 (nB 3 (by omega))
   have b4 := F2.arr a4 (nB 4 (by omega))
   have b5 := F2.arr a5 (nB 5 (by omega))
   have L2 : h2.lim = h.lim := F2.lim
   refine W.mono' (Q := fun e _ h3 => h3.loopOf Y = some ⟨[12], ra_lex_Lex0, rb_lex_Lex0, lexKeep B, .busy⟩ ∧ Fwd (fr ++ [B, B + 1, B + 2, B + 3, B + 4, B + 5, Y]) h h3 ∧
    (e = .normal ∧ (∃ v' fr', Own h3 4 true v' (((toks 0 l).1.take (i + 1)).map Tok.cells) fr' ∧ (∀ y ∈ fr', y ∈ fr ∨ h.objs.length ≤ y) ∧ h3.arr (B + 4) 0 = some ⟨0, 1, false, 0, [[v']]⟩ ∧ i + 1 ≤ 200 ∧
     h3.arr (B + 5) 0 = some ⟨0, 1, false, 0, [[eI (a + m + runN blankB (l.drop (a + m)) : Nat)]]⟩ ∧ h3.arr B 0 = some ⟨0, 1, false, 0, [[.p (.str (mkS l))]]⟩ ∧ h3.arr (B + 1) 0 = some ⟨0, 1, false, 0, [[.full []]]⟩ ∧ h3.arr (B + 2) 0 = some ⟨0, 1, false, 0, [[eI 0]]⟩ ∧ h3.arr (B + 3) 0 = some ⟨0, 1, false, 0, [[eI 0]]⟩) ∨
     e = .ret ∧ i = 200 ∧ h3.arr (B + 1) 0 = some ⟨0, 1, false, 0, [[.full []]]⟩ ∧ h3.arr (B + 2) 0 = some ⟨0, 1, false, 0, [[eI t.at_]]⟩ ∧ h3.arr (B + 3) 0 = some ⟨0, 1, false, 0, [[eI 12]]⟩)) ?_ ?_
   · rintro e _ h3 ⟨hY3, F3, hc⟩
     refine ⟨hY3, fun h4 f4 hY4 len4 => ?_⟩
     have F4 : Fwd (fr ++ [B, B + 1, B + 2, B + 3, B + 4, B + 5, Y]) h h4 := F3.trans (f4.mono (by simp))
     have hle := runN_le blankB (l.drop (a + m))
     rw [List.length_drop] at hle
     rcases hc with ⟨rfl, v', fr', O3, G3, c4, c6, c5, c0, c1, c2, c3⟩ | ⟨rfl, i2, c1, c2, c3⟩
     · have nO3 : ∀ y ∈ fr', y ∉ [Y] := fun y hy q => by
        simp at q
        rcases G3 y hy with z | z
        · have := q1 y z; omega
        · omega
       refine ⟨F4, fr' ++ [B, B + 1, B + 2, B + 3, B + 4, B + 5, Y], fun y hy => ?_, .inl ⟨by simp, a + m + runN blankB (l.drop (a + m)), v', fr', rfl, by omega, c6, ?_, ?_, ?_, O3.fwd f4 nO3, f4.arr c0 (nB 0 (by omega)), f4.arr c1 (nB 1 (by omega)), f4.arr c2 (nB 2 (by omega)), f4.arr c3 (nB 3 (by omega)), f4.arr c4 (nB 4 (by omega)), f4.arr c5 (nB 5 (by omega)), by simpa [ra_lex_Lex0] using hY4, fun y hy => ?_, q2, by rw [F4.lim]; exact q3, F4.limlen q4⟩⟩
       · simp only [List.mem_append, List.mem_cons, List.not_mem_nil, or_false] at hy
         rcases hy with q | q
         · rcases G3 y q with z | z
           · exact .inl (.inl z)
           · exact .inr z
         · exact .inl (.inr q)
       · rw [r6, toks_skip, List.drop_drop]
       · rw [p4, r7, toks_skip, List.drop_drop]
       · rw [← List.drop_drop]
         exact runN_drop _
       · rcases G3 y hy with z | z
         · exact q1 y z
         · omega
     · exact ⟨F4, [B + 1, B + 2, B + 3, Y], fun y hy => .inl (.inr (by simp at hy; omega)), .inr ⟨by simp, t, rfl, i2 ▸ hx, f4.arr c1 (nB 1 (by omega)), f4.arr c2 (nB 2 (by omega)), f4.arr c3 (nB 3 (by omega)), by simpa [ra_lex_Lex0] using hY4⟩⟩
   simp only [rb_lex_Lex0]
   generalize hQ : (fun (e : Ex) (_ : Fr) (h3 : Hp) => h3.loopOf Y = _ ∧ _) = Q
   have lm2 : min i (toks 0 l).1.length = i := by omega
   have lB := lk (show h2.lim ≤ B by omega)
   have lt0 := arr_lt b0
   have lt1 := arr_lt b1
   have lt2 := arr_lt b2
   have lt3 := arr_lt b3
   have lt4 := arr_lt b4
   have lt5 := arr_lt b5
   have ltN := arr_lt b12
   have ne : ∀ k, k ≤ 5 → (h.objs.length = B + k) = False := fun k hk => eq_false (by omega)
   have l2 : h2.lim ≤ h2.objs.length := by omega
   by_cases hi2 : i = 200
   · subst hi2
     simp [b0, b1, b2, b3, b4, b5, b12, lexKeep, O2.len, lm2, Tok.cells, lB, lt1, lt2, lt3, ne]
     rw [← hQ]
     refine ⟨?_, ?_, .inr ⟨rfl, rfl, by simp [lt1, lt2, lt3], by simp [lt1, lt2, lt3], by simp [lt1, lt2, lt3]⟩⟩
     · refine Fwd.loop (ids := [B + 1, B + 2, B + 3]) (Fwd.set (Fwd.set (Fwd.set (Fwd.refl _ _) _ (.inl (by simp))) _ (.inl (by simp))) _ (.inl (by simp))) hY2 (by simp; omega)
     · refine Fwd.set (Fwd.set (Fwd.set (F2.mono (by simp)) _ (.inl (by simp))) _ (.inl (by simp))) _ (.inl (by simp))
   · have hi3 : ((i : Int) = 200) = False := eq_false (by omega)
     simp [b0, b1, b2, b3, b4, b5, b12, lexKeep, O2.len, lm2, hi3, Tok.cells, lB, ones, lk l2]
     obtain ⟨X2, eX2⟩ : ∃ X2, X2 = h2.new (.cells ⟨0, 4, true, 0, [[eI t.kind, eI t.at_, .p (.str (mkS t.text)), eI t.n]]⟩) := ⟨_, rfl⟩
     have FX2 : Fwd [] h2 X2 := by rw [eX2]; exact (Fwd.refl _ _).new _
     have x2 : X2.arr h2.objs.length 0 = some ⟨0, 4, true, 0, [t.cells]⟩ := by rw [eX2]; simp [Tok.cells]
     rw [← eX2]
     clear eX2
     have O3 := O2.fwd FX2 (by simp)
     have ltfr := O2.lt
     refine PutA_of (O3.append (ys := [t.cells]) (by simp [elsOf, x2]) (by simp; omega) (FX2.limlen l2)) ?_
     rintro v' h3 ⟨fr', O4, f4, G4⟩
     have n4 : ∀ k, k ≤ 5 → B + k ∉ fr := fun k hk q => by have := q1 _ q; omega
     have F23 : Fwd fr h2 h3 := (FX2.mono (by simp)).trans f4
     have c0 := F23.arr b0 (n4 0 (by omega))
     have c1 := F23.arr b1 (n4 1 (by omega))
     have c2 := F23.arr b2 (n4 2 (by omega))
     have c3 := F23.arr b3 (n4 3 (by omega))
     have c4 := F23.arr b4 (n4 4 (by omega))
     have c5 := F23.arr b5 (n4 5 (by omega))
     have c12 := F23.arr b12 (fun q => by have := O.lt _ q; omega)
     have lB3 := lk (show h3.lim ≤ B by have := F23.lim; omega)
     have ltt4 := arr_lt c4
     have ltt5 := arr_lt c5
     have hG : ∀ y ∈ fr', y ∈ fr ∨ h2.objs.length ≤ y := fun y hy => by
      rcases G4 y hy with q | q
      · exact .inl q
      · have := FX2.len; exact .inr (by omega)
     have vo := (View.own O4).one
     have vc := (View.own O4).cells
     have w : IntKind.i64.wrap ((a : Int) + m) = ((a + m : Nat) : Int) := by rw [wrap64 (by omega) (by omega)]; simp
     simp [c0, c1, c2, c3, c4, c5, c12, lB3, ltt4, vo, vc, ne, Tok.cells, r4, lm, w]
     obtain ⟨X3, eX3⟩ : ∃ X3, X3 = h3.setArr (B + 4) ⟨0, 1, false, 0, [[v']]⟩ := ⟨_, rfl⟩
     have FX3 : Fwd [B + 4] h3 X3 := by rw [eX3]; exact (Fwd.refl _ _).set _ (.inl (by simp))
     have d4 : X3.arr (B + 4) 0 = some ⟨0, 1, false, 0, [[v']]⟩ := by rw [eX3]; simp [ltt4]
     rw [← eX3]
     clear eX3
     have k1 := skip_ok l (a + m) (by omega) X3 (FX3.limlen (F23.limlen l2)) hs
     simp only [Int.natCast_add] at k1
     refine PutA_eq k1 ?_
     have m4 : ∀ k, k ≤ 5 → k ≠ 4 → B + k ∉ [B + 4] := fun k hk hk4 q => by simp at q; omega
     have d0 := FX3.arr c0 (m4 0 (by omega) (by omega))
     have d1 := FX3.arr c1 (m4 1 (by omega) (by omega))
     have d2 := FX3.arr c2 (m4 2 (by omega) (by omega))
     have d3 := FX3.arr c3 (m4 3 (by omega) (by omega))
     have d5 := FX3.arr c5 (m4 5 (by omega) (by omega))
     have lB4 := lk (show X3.lim ≤ B by have := FX3.lim; have := F23.lim; omega)
     have lt6 := arr_lt d5
     simp [d5, lB4]
     rw [← hQ]
     obtain ⟨X4, eX4⟩ : ∃ X4, X4 = X3.setArr (B + 5) ⟨0, 1, false, 0, [[.p (.int .i64 ((a : Int) + m + runN blankB (l.drop (a + m))))]]⟩ := ⟨_, rfl⟩
     have FX4 : Fwd [B + 5] X3 X4 := by rw [eX4]; exact (Fwd.refl _ _).set _ (.inl (by simp))
     have e5 : X4.arr (B + 5) 0 = some ⟨0, 1, false, 0, [[eI (a + m + runN blankB (l.drop (a + m)) : Nat)]]⟩ := by rw [eX4]; simp [lt6]; omega
     rw [← eX4]
     clear eX4
     have m5 : ∀ k, k ≤ 4 → B + k ∉ [B + 5] := fun k hk q => by simp at q; omega
     have nfr : ∀ y ∈ fr', Y < y := fun y hy => by
      rcases hG y hy with q | q
      · exact q1 y q
      · omega
     have FT : Fwd (fr ++ [B, B + 1, B + 2, B + 3, B + 4, B + 5, Y]) h X4 :=
      (((F2.mono (by simp)).trans (F23.mono fun i hi => List.mem_append_left _ hi)).trans (FX3.mono (by simp))).trans (FX4.mono (by simp))
     refine ⟨?_, FT, .inl ⟨rfl, v', fr', ?_, fun y hy => ?_, FX4.arr d4 (m5 4 (by omega)), by omega, e5, FX4.arr d0 (m5 0 (by omega)), FX4.arr d1 (m5 1 (by omega)), FX4.arr d2 (m5 2 (by omega)), FX4.arr d3 (m5 3 (by omega))⟩⟩
     · exact FX4.loop (FX3.loop (F23.loop hY2 (fun q => by have := q1 _ q; omega)) (by simp; omega)) (by simp; omega)
     · have O5 := (O4.fwd FX3 (fun y hy q => by simp at q; have := nfr y hy; omega)).fwd FX4 (fun y hy q => by simp at q; have := nfr y hy; omega)
       rw [List.take_add_one, hx]
       simpa using O5
     · rcases hG y hy with q | q
       · exact .inl q
       · have := F2.len; exact .inr (by omega)
end Dk.M
