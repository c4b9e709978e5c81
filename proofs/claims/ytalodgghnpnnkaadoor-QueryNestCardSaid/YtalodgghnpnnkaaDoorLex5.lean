/- Lex, at D. -/
import Derived.Test.YtalodgghnpnnkaaDoorLex4
set_option linter.unusedVariables false
set_option linter.unusedSimpArgs false
set_option linter.unusedSectionVars false
namespace Dk.M
open Go Dk
variable [Mx]
omit [Mx] in
theorem toks_all2 {P : Nat → Prop} {h : Hp} {n : Nat} : ∀ (ts : List Tok), All2 (ElShows (Shows P h n) true) (ts.map Tok.cells) (ts.map Tok.pd)
 | [] => trivial
 | t :: ts => ⟨⟨_, rfl, Shows.plain _, Shows.plain _, Shows.plain _, Shows.plain _, trivial⟩, toks_all2 ts⟩
omit [Mx] in
theorem toks_stop {p : Nat} {l : List UInt8} (h0 : runN blankB l = 0) (h : (toks p l).1 = []) : (toks p l).2 = p := by
 cases l with
 | nil => rfl
 | cons c r =>
  have hb : blankB c = false := by
   cases q : blankB c with
   | false => rfl
   | true => simp [runN, q] at h0
  cases ht : tokL (c :: r) with
  | none => rw [toks_none p hb ht]
  | some q =>
   obtain ⟨k, m, x⟩ := q
   rw [toks_some p hb ht] at h
   cases h
theorem lex_ok (l : List UInt8) (h : Hp) (hl : h.lim ≤ h.objs.length) (hs : l.length < 2 ^ 62) :
 ∃ v, (∃ w, v = .tup [w, eI (lexR l).2.1, eI (lexR l).2.2] ∧ (w = .p (.list ((lexR l).1.map Tok.pd)) ∨ w = .full ((lexR l).1.map Tok.pd))) ∧ C0 n_lex_Lex [.p (.str (mkS l))] h = some (v, h) := by
 refine call_locSX noExt_mono (f := n_lex_Lex) rfl rfl (fun v e => by obtain ⟨w, rfl, rfl | rfl⟩ := e <;> rfl) fun h0 e0 el => ?_
 have hl : h0.lim ≤ h0.objs.length := by omega
 simp [ones]
 generalize hB : h0.objs.length = B
 obtain ⟨X, eX⟩ : ∃ X, X = ((((h0.new (.cells ⟨0, 1, false, 0, [[.p (.str (mkS l))]]⟩)).new (.cells ⟨0, 1, false, 0, [[.full []]]⟩)).new (.cells ⟨0, 1, false, 0, [[eI 0]]⟩)).new (.cells ⟨0, 1, false, 0, [[eI 0]]⟩)).new (.cells ⟨0, 1, false, 0, [[.full []]]⟩) := ⟨_, rfl⟩
 have FX : Fwd [] h0 X := by rw [eX]; exact ((((((Fwd.refl _ _).new _).new _).new _).new _).new _)
 have nX : X.objs.length = B + 5 := by rw [eX]; simp; omega
 have x0 : X.arr B 0 = some ⟨0, 1, false, 0, [[.p (.str (mkS l))]]⟩ := by rw [eX, ← hB]; simp
 have x1 : X.arr (B + 1) 0 = some ⟨0, 1, false, 0, [[.full []]]⟩ := by rw [eX, ← hB]; simp
 have x2 : X.arr (B + 2) 0 = some ⟨0, 1, false, 0, [[eI 0]]⟩ := by rw [eX, ← hB]; simp
 have x3 : X.arr (B + 3) 0 = some ⟨0, 1, false, 0, [[eI 0]]⟩ := by rw [eX, ← hB]; simp
 have x4 : X.arr (B + 4) 0 = some ⟨0, 1, false, 0, [[.full []]]⟩ := by rw [eX, ← hB]; simp
 rw [← eX]
 clear eX
 have lX := FX.limlen hl
 have limX : X.lim ≤ B := by rw [FX.lim, ← hB]; exact hl
 refine PutA_eq (skip_ok l 0 (by omega) X lX hs) ?_
 simp [nX, lk limX, lk lX]
 obtain ⟨X1, eX1⟩ : ∃ X1, X1 = (X.new (.cells ⟨0, 1, false, 0, [[eI 0]]⟩)).setArr (B + 5) ⟨0, 1, false, 0, [[eI (runN blankB l)]]⟩ := ⟨_, rfl⟩
 have FX1 : Fwd [] X X1 := by rw [eX1]; exact ((Fwd.refl _ _).new _).set _ (.inr (by omega))
 have nX1 : X1.objs.length = B + 6 := by rw [eX1]; simp; omega
 have y5 : X1.arr (B + 5) 0 = some ⟨0, 1, false, 0, [[eI (runN blankB l)]]⟩ := by rw [eX1]; simp [nX]
 have y0 := FX1.arr x0 (by simp)
 have y1 := FX1.arr x1 (by simp)
 have y2 := FX1.arr x2 (by simp)
 have y3 := FX1.arr x3 (by simp)
 have y4 := FX1.arr x4 (by simp)
 simp [x0, nX]
 rw [← eX1]
 clear eX1
 have lX1 := FX1.limlen lX
 refine PutA_of (K := fun v h' => v = .fn (.func n_lex_Each_1) [] [.ptr (B + 6) 0 0 0] ∧ h' = X1.new (.cells ⟨0, 1, false, 0, [[.p (.str (mkS l))]]⟩)) ?_ ?_
 · refine call_W noExt_mono (f := n_lex_Each) rfl rfl ?_
   simp [ones, Ends, nX1]
 rintro _ _ ⟨rfl, rfl⟩
 obtain ⟨X2, eX2⟩ : ∃ X2, X2 = X1.new (.cells ⟨0, 1, false, 0, [[.p (.str (mkS l))]]⟩) := ⟨_, rfl⟩
 have FX2 : Fwd [] X1 X2 := by rw [eX2]; exact (Fwd.refl _ _).new _
 have nX2 : X2.objs.length = B + 7 := by rw [eX2]; simp; omega
 have z6 : X2.arr (B + 6) 0 = some ⟨0, 1, false, 0, [[.p (.str (mkS l))]]⟩ := by rw [eX2]; simp [nX1]
 rw [← eX2]
 clear eX2
 have lX2 := FX2.limlen lX1
 simp
 refine Run_range rfl fun h1 hY f1 hlen1 => ?_
 rw [nX2] at hY hlen1
 have F1 : Fwd [] X1 h1 := FX2.trans f1
 have ll1 := F1.limlen lX1
 have lim1 : h1.lim ≤ B := by rw [F1.lim, FX1.lim]; exact limX
 have I0 : LexI l B (B + 7) 0 ([] ++ [B, B + 1, B + 2, B + 3, B + 4, B + 5, B + 7]) h1 := by
  refine ⟨runN blankB l, .full [], [], rfl, runN_le _ _, by omega, ?_, ?_, runN_drop l, .nil, F1.arr y0 (by simp), F1.arr y1 (by simp), F1.arr y2 (by simp), F1.arr y3 (by simp), F1.arr y4 (by simp), F1.arr y5 (by simp), by simpa [mask, lexKeep] using hY, by simp, by omega, lim1, ll1⟩
  · rw [List.drop_zero, toks_skip 0 l, Nat.zero_add]
  · rw [toks_skip 0 l, Nat.zero_add]
 rw [nX2]
 refine (each_ok (lex_rounds l hs B (B + 7)) I0 (f1.arr z6 (by simp)) (by simp) ll1 hs).mono ?_
 rintro _ h2 ⟨fp', F2, G2, I | J⟩
 · obtain ⟨p, v, fr, rfl, p1, p2, p3, p4, p5, O, a0, a1, a2, a3, a4, a5, aY, q1, q2, q3, q4⟩ := I
   refine ⟨_, .normal, aY, rfl, fun h3 f3 hlen3 => ?_⟩
   rw [List.drop_length] at p3
   rw [toks_stop p5 p3.symm] at p4
   rw [List.take_length] at O
   have nB : ∀ k, k ≤ 5 → B + k ∉ [B + 7] := fun k hk q => by simp at q; omega
   have b0 := f3.arr a0 (nB 0 (by omega))
   have b1 := f3.arr a1 (nB 1 (by omega))
   have b2 := f3.arr a2 (nB 2 (by omega))
   have b3 := f3.arr a3 (nB 3 (by omega))
   have b4 := f3.arr a4 (nB 4 (by omega))
   have b5 := f3.arr a5 (nB 5 (by omega))
   have lB := lk (show h3.lim ≤ B by have := f3.lim; omega)
   have ll3 : h3.lim ≤ h3.objs.length := f3.limlen q4
   have lt1 := arr_lt b1
   have lt2 := arr_lt b2
   have lt3 := arr_lt b3
   have O3 := O.fwd f3 (fun y hy q => by simp at q; have := q1 y hy; omega)
   have h200 : (toks 0 l).1[200]? = none := List.getElem?_eq_none (by omega)
   by_cases hp : p < l.length
   · have hR : lexR l = ([], (p : Int), 10) := by simp [lexR, h200, p4, hp]
     simp [b0, b1, b2, b3, b4, b5, hp, lB, lt1, lt2, lt3]
     simp [EndsS, hR, shareVs, shareV, lt1, lt2, lt3]
   · have hR : lexR l = ((toks 0 l).1, (l.length : Int), 0) := by simp [lexR, h200, p4, hp]
     have vo := (View.own O3).one
     have vc := (View.own O3).cells
     simp [b0, b1, b2, b3, b4, b5, hp, lB, lt1, lt2, lt3, vo, vc]
     have O4 := ((O3.fwd (ids := [B + 1]) (h' := h3.setArr (B + 1) ⟨0, 1, false, 0, [[v]]⟩) ((Fwd.refl _ _).set _ (.inl (by simp))) (fun y hy q => by simp at q; have := q1 y hy; omega)).fwd (ids := [B + 2]) ((Fwd.refl _ _).set (id := B + 2) ⟨0, 1, false, 0, [[.p (.int .i64 l.length)]]⟩ (.inl (by simp))) (fun y hy q => by simp at q; have := q1 y hy; omega)).fwd (ids := [B + 3]) ((Fwd.refl _ _).set (id := B + 3) ⟨0, 1, false, 0, [[.p (.int .i64 0)]]⟩ (.inl (by simp))) (fun y hy q => by simp at q; have := q1 y hy; omega)
     generalize hX4 : ((h3.setArr (B + 1) ⟨0, 1, false, 0, [[v]]⟩).setArr (B + 2) ⟨0, 1, false, 0, [[.p (.int .i64 l.length)]]⟩).setArr (B + 3) ⟨0, 1, false, 0, [[.p (.int .i64 0)]]⟩ = X4 at O4
     obtain ⟨w, os', e2, hw2, -⟩ := share_any (os := X4.objs) (lim := X4.lim) (own_shows (P := fun _ => True) (n := 7) O4 (fun y hy => trivial) (toks_all2 _))
     have c1 : X4.arr (B + 1) 0 = some ⟨0, 1, false, 0, [[v]]⟩ := by rw [← hX4]; simp [lt1, lt2, lt3]
     have c2 : X4.arr (B + 2) 0 = some ⟨0, 1, false, 0, [[eI l.length]]⟩ := by rw [← hX4]; simp [lt1, lt2, lt3]
     have c3 : X4.arr (B + 3) 0 = some ⟨0, 1, false, 0, [[eI 0]]⟩ := by rw [← hX4]; simp [lt1, lt2, lt3]
     simp [EndsS, c1, c2, c3, hR, shareVs, e2]
     exact ⟨[w, eI l.length, eI 0], ⟨os', by simp [shareV]⟩, w, rfl, hw2⟩
 · obtain ⟨t, rfl, p1, a1, a2, a3, aY⟩ := J
   refine ⟨_, .ret, aY, rfl, fun h3 f3 hlen3 => ?_⟩
   have nB : ∀ k, k ≤ 5 → B + k ∉ [B + 7] := fun k hk q => by simp at q; omega
   have b1 := f3.arr a1 (nB 1 (by omega))
   have b2 := f3.arr a2 (nB 2 (by omega))
   have b3 := f3.arr a3 (nB 3 (by omega))
   have hR : lexR l = ([], t.at_, 12) := by simp [lexR, p1]
   simp [b1, b2, b3, EndsS, hR, shareVs, shareV]
end Dk.M
