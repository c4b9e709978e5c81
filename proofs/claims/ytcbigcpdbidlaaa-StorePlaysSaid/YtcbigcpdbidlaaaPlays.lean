/- StorePlays. -/
import Derived.Test.YtcbigcpdbidlaaaPlaysRel
import Derived.Test.YtcbigcpdbidlaaaOwn
set_option linter.unusedVariables false
set_option linter.unusedSimpArgs false
namespace Dk.A
open Go Dk

structure PlA (n z y : Nat) (a : Int) (xs : List PD) (i b : Nat) (s : Sto) (m : RSto) (fp : List Nat) (R : List Ref) (g1 : Nat) (fr : Fr) (h : Hp) : Prop where
  rl : R.length ≤ b
  il : m.items.length ≤ b
  rel : Rel s m
  sl : s.slots.length = n
  f0 : fr.get 0 = eI a
  f1 : fr.get 1 = .p (.list xs)
  f5 : fr.get 5 = eB true
  f7 : fr.get 7 = .ptr (z + 1) 0 0 0
  f8 : fr.get 8 = .ptr y 0 0 0
  f9 : fr.get 9 = .arr (y + 1) g1 2 0 R.length false
  f10 : fr.get 10 = eI i
  st : StoAt h (z + 1) z s
  rs : RAt h y fp m
  fpz : z ∉ fp ∧ z + 1 ∉ fp ∧ y + 1 ∉ fp
  ra : h.arr (y + 1) g1 = some ⟨g1, 2, true, 0, R.map Ref.cells⟩
  lim1 : h.lim ≤ y
  lim : h.lim ≤ h.objs.length
  lt : z + 1 < y

/-- Amid a round: what is done with, at x, and the ref, at x + 1. -/
structure PlJ (z y : Nat) (a : Int) (xs : List PD) (i : Nat) (R : List Ref) (g1 x : Nat) (kd t am : Int) (r : Ref) (f : Fr) (h2 h : Hp) : Prop where
  f0 : f.get 0 = eI a
  f1 : f.get 1 = .p (.list xs)
  f5 : f.get 5 = eB true
  f7 : f.get 7 = .ptr (z + 1) 0 0 0
  f8 : f.get 8 = .ptr y 0 0 0
  f9 : f.get 9 = .arr (y + 1) g1 2 0 R.length false
  f10 : f.get 10 = eI i
  f11 : f.get 11 = .ptr x 0 0 0
  f12 : f.get 12 = .ptr (x + 1) 0 0 0
  f13 : f.get 13 = eI (kd % 6)
  c11 : h.arr x 0 = some ⟨0, 3, true, 0, [[eI kd, eI t, eI am]]⟩
  c12 : h.arr (x + 1) 0 = some ⟨0, 2, true, 0, [r.cells]⟩
  fw : Fwd [] h2 h

/-- Behind what is done in a round. -/
structure PlK (n z y : Nat) (a : Int) (xs : List PD) (i x : Nat) (f : Fr) (h : Hp) : Prop where
  ex : ∃ (s : Sto) (m : RSto) (fp : List Nat) (R : List Ref) (g1 : Nat) (r : Ref), PlA n z y a xs i (i + 1) s m fp R g1 f h ∧ f.get 12 = .ptr (x + 1) 0 0 0 ∧ h.arr (x + 1) 0 = some ⟨0, 2, true, 0, [r.cells]⟩

structure PlN (z y : Nat) (a : Int) (xs : List PD) (i : Nat) (R : List Ref) (g1 x : Nat) (kd t am : Int) (r : Ref) (h2 h3 : Hp) (f : Fr) (h : Hp) : Prop where
  eq : h = h3
  b : PlJ z y a xs i R g1 x kd t am r f h2 h3
  ex : ∃ nn, f.get 18 = eI nn

theorem storePlays_ok (a : Int) (ha : -9223372036854775808 ≤ a ∧ a < 9223372036854775808) (xs : List PD) (hx : ∀ x ∈ xs, ∃ k t n, x = .agg [.int .i64 k, .int .i64 t, .int .i64 n]) (h : Hp) : C0 n_StorePlays [eI a, .p (.list xs)] h = some (eB true, h) := by
  refine call_loc noExt_mono (f := n_StorePlays) rfl rfl rfl fun h0 e0 el => ?_
  have aw := awake_ok h0
  unfold C0 at aw
  obtain ⟨n, hn, hn1⟩ : ∃ n : Nat, w64 (1 + a % 6) = n ∧ 1 ≤ n ∧ n ≤ 6 := ⟨(1 + a % 6).toNat, by rw [w64_eq (by omega) (by omega)]; omega, by omega, by omega⟩
  have r6 : ∀ (x : Int) (h : Hp), call prog noExt n_rest [eI x, eI 6] h = some (eI (x % 6), h) := fun x h => rest_ok x 6 h (by omega)
  have r4 : ∀ (x : Int) (h : Hp), call prog noExt n_rest [eI x, eI 4] h = some (eI (x % 4), h) := fun x h => rest_ok x 4 h (by omega)
  simp [aw, r6, show IntKind.i64.wrap (1 + a % 6) = n from hn]
  refine PutA_of (new_ok n h0 (by omega) (by omega)) ?_
  rintro v h1 ⟨rfl, H1, F1⟩
  have l1 := F1.limlen (by omega)
  have a1 := arr_lt H1.top
  have b1 := arr_lt H1.sl
  simp
  refine Run_loop (fun q fr h' => ∃ (i : Nat) (s : Sto) (m : RSto) (fp : List Nat) (R : List Ref) (g1 : Nat), i ≤ 60 ∧ q = 60 - i ∧ PlA n h0.objs.length h1.objs.length a xs i i s m fp R g1 fr h') (n := 60) ?_ ?_
  · refine ⟨0, Sto.new n, ⟨n, []⟩, [h1.objs.length], [], 0, by omega, by omega, by simp, by simp, rel_new n, by simp [Sto.new], by simp, by simp, by simp, by simp, by simp, by simp, by simp,
      H1.fwd (ids := []) (by repeat first | exact Fwd.refl _ _ | refine Fwd.set ?_ _ (by simp) | refine Fwd.new ?_ _) (by simp) (by simp), ?_, ?_, ?_, by simpa using l1, ?_, a1⟩
    · exact ⟨⟨.full [], [], by simp, .none, rfl, by simp⟩, by simpa using l1⟩
    · simp; omega
    · simp
    · simp; omega
  generalize h0.objs.length = z at *
  generalize h1.objs.length = y at *
  clear H1 F1 l1 a1 b1
  · rintro q fr h2 ⟨i, s, m, fp, R, g1, hi, rfl, A⟩
    have ei : IntKind.i64.wrap ((i : Int) + 1) = ((i + 1 : Nat) : Int) := by rw [wrap64 (by omega) (by omega)]; omega
    by_cases hstop : i < xs.length ∧ i < 60
    · obtain ⟨hlt, hi6⟩ := hstop
      have hi7 : (i : Int) < 60 := by omega
      obtain ⟨kd, t, am, hx1⟩ : ∃ k t n, xs[i]? = some (.agg [.int .i64 k, .int .i64 t, .int .i64 n]) := by
        obtain ⟨k, t, n, hn⟩ := hx _ (List.getElem_mem hlt)
        exact ⟨k, t, n, by rw [List.getElem?_eq_getElem hlt, hn]⟩
      have hx2 : xs[i] = .agg [.int .i64 kd, .int .i64 t, .int .i64 am] := (List.getElem?_eq_some_iff.1 hx1).2
      have e6 : IntKind.i64.wrap (t % 6 - 1) = t % 6 - 1 := wrap64 (by omega) (by omega)
      have e4 : IntKind.i64.wrap (am % 4 - 1) = am % 4 - 1 := wrap64 (by omega) (by omega)
      have al : h2.lim ≤ h2.objs.length + 1 := by have := A.lim; omega
      simp [A.f0, A.f1, A.f5, A.f7, A.f8, A.f9, A.f10, hlt, hi6, hi7, hx1, hx2, A.lim, r6, r4, e6, e4, al]
      have a2 := arr_lt A.st.top
      have b2 := arr_lt A.st.sl
      have c2 := arr_lt A.ra
      have d2 := A.rs.lt
      have hyz := A.lt
      refine Gd_join2 (J := fun f h' => ∃ r : Ref, PlJ z y a xs i R g1 h2.objs.length kd t am r f h2 h') ?_ ?_
      · have F3 : ∀ c, Fwd [] h2 ((((h2.new (.cells ⟨0, 3, true, 0, [[eI 0, eI 0, eI 0]]⟩)).setArr h2.objs.length ⟨0, 3, true, 0, [[.p (.int .i64 kd), .p (.int .i64 t), .p (.int .i64 am)]]⟩).new (.cells ⟨0, 2, true, 0, [[eI 0, eI 0]]⟩)).setArr (h2.objs.length + 1) ⟨0, 2, true, 0, [c]⟩) := fun c => by
          repeat first | exact Fwd.refl _ _ | refine Fwd.set ?_ _ (by simp) | refine Fwd.new ?_ _
        by_cases hk5 : kd % 6 = 5
        · simp [hk5]
          exact ⟨⟨t % 6 - 1, am % 4 - 1⟩, by simp [A.f0], by simp [A.f1], by simp [A.f5], by simp [A.f7], by simp [A.f8], by simp [A.f9], by simp [A.f10], by simp, by simp, by simp [hk5], by simp, by simp [Ref.cells], F3 _⟩
        · by_cases hR0 : 0 < R.length
          · obtain ⟨q, hq, hql⟩ : ∃ q : Nat, t % (R.length : Int) = q ∧ q < R.length := ⟨(t % (R.length : Int)).toNat, by have := Int.emod_nonneg t (show (R.length : Int) ≠ 0 by omega); omega, by have := Int.emod_nonneg t (show (R.length : Int) ≠ 0 by omega); have := Int.emod_lt_of_pos t (show (0 : Int) < R.length by omega); omega⟩
            have rq : ∀ (h : Hp), call prog noExt n_rest [eI t, eI R.length] h = some (eI q, h) := fun h => by rw [← hq]; exact rest_ok t R.length h (by have := A.rl; omega)
            have hR1 : (0 : Int) < R.length := by omega
            obtain ⟨r, hr⟩ : ∃ r, R[q]? = some r := ⟨_, List.getElem?_eq_getElem hql⟩
            have hr2 : R[q] = r := (List.getElem?_eq_some_iff.1 hr).2
            have hyn : (y = h2.objs.length) = False := eq_false (by omega)
            simp [hk5, hR0, hR1, A.f9, rq, hql, nl c2, hyn, A.ra, hr, hr2, Ref.cells, al]
            refine ⟨r, by simp [A.f0], by simp [A.f1], by simp [A.f5], by simp [A.f7], by simp [A.f8], by simp [A.f9], by simp [A.f10], by simp, by simp, by simp, by simp, by simp [Ref.cells], (F3 _).set _ (by simp)⟩
          · have hR1 : ¬ (0 : Int) < R.length := by omega
            simp [hk5, hR0, hR1, A.f9]
            exact ⟨⟨t % 6 - 1, am % 4 - 1⟩, by simp [A.f0], by simp [A.f1], by simp [A.f5], by simp [A.f7], by simp [A.f8], by simp [A.f9], by simp [A.f10], by simp, by simp, by simp, by simp, by simp [Ref.cells], F3 _⟩
      · rintro f h3 ⟨r, B⟩
        have B0 := B.fw
        generalize hxl : h2.objs.length = x at *
        have hxy : y + 1 < x := c2
        have st3 := A.st.fwd B.fw (by simp) (by simp)
        have rs3 := A.rs.fwd B.fw (by simp)
        have ra3 := B.fw.arr A.ra (by simp)
        have lim3 := B.fw.limlen A.lim
        have l1m : h3.lim ≤ y := by rw [B.fw.lim]; exact A.lim1
        have rel := A.rel
        have rl := A.rl
        have il := A.il
        have sl := A.sl
        have fpz := A.fpz
        clear A
        rw [Run_seq]
        have hfx : ∀ j ∈ fp, j < x := d2
        have nx : ∀ j, x ≤ j → j ∉ fp := fun j hj q => by have := hfx j q; omega
        refine Run_join (J := PlK n z y a xs i x) ?_ ?_
        · have hlx : x + 1 < h3.objs.length := arr_lt B.c12
          by_cases hk01 : kd % 6 = 0 ∨ kd % 6 = 1
          · rcases hk01 with hk | hk
            all_goals
              simp [B.f13, hk, B.f7, B.f8, B.f11, B.c11]
              refine PutA_of (take_ok st3 (by omega) ⟨t, 0, 0, 0, 0, 0⟩) ?_
              rintro v h4 ⟨rfl, H4, F4⟩
              have lim4 := F4.limlen lim3
              have rs4 := rs3.fwd F4 (fun j hj q => by simp at q; rcases q with rfl | rfl <;> simp_all)
              have ra4 := F4.arr ra3 (by simp; omega)
              have c11 := F4.arr B.c11 (by simp; omega)
              have c12 := F4.arr B.c12 (by simp; omega)
              have l4 : h3.objs.length ≤ h4.objs.length := F4.len
              have l1m4 : h4.lim ≤ y := by rw [F4.lim]; exact l1m
              have w0 := rtake_ok (h := ((h4.new (.cells ⟨0, 2, true, 0, [[eI 0, eI 0]]⟩)).setArr h4.objs.length ⟨0, 2, true, 0, [(s.take ⟨t, 0, 0, 0, 0, 0⟩).1.cells]⟩)) (rs4.fwd (((Fwd.refl [] _).new _).set _ (by simp)) (by simp)) (by omega) (by rw [rel.n]; omega) ⟨t, 0, 0, 0, 0, 0⟩
              obtain ⟨q1, q2, q3⟩ := rel.take (by omega) ⟨t, 0, 0, 0, 0, 0⟩
              obtain ⟨q4, q5⟩ := take_lens s m ⟨t, 0, 0, 0, 0, 0⟩
              generalize s.take ⟨t, 0, 0, 0, 0, 0⟩ = T at *
              generalize m.take ⟨t, 0, 0, 0, 0, 0⟩ = U at *
              obtain ⟨rr, bb, s'⟩ := T
              obtain ⟨rr', bb', m'⟩ := U
              simp only at q1 q2 q3 q4 q5 w0 H4
              subst q1 q2
              simp [Ref.cells, lim4, B.f8, B.f11, nl (arr_lt c11), c11]
              have F5 : ∀ ids c, Fwd ids h4 ((h4.new (.cells ⟨0, 2, true, 0, [[eI 0, eI 0]]⟩)).setArr h4.objs.length ⟨0, 2, true, 0, [c]⟩) := fun ids c => ((Fwd.refl _ _).new _).set _ (by simp)
              refine PutA_of w0 ?_
              rintro v h5 ⟨rfl, ⟨fp', rs5, hfp'⟩, F6⟩
              have lim5 := F6.limlen (by simp; omega)
              have b5 := F6.arr (id := h4.objs.length) (g := 0) (ar := ⟨0, 2, true, 0, [[eI rr.slot, eI rr.gen]]⟩) (by simp [Ref.cells]) (nx _ (by omega))
              have H5 := (H4.fwd (F5 [] rr.cells) (by simp) (by simp)).fwd F6 fpz.2.1 fpz.1
              have ra5 := F6.arr ((F5 [] rr.cells).arr ra4 (by simp)) fpz.2.2
              have c125 := F6.arr ((F5 [] rr.cells).arr c12 (by simp)) (nx _ (by omega))
              have l1m5 : h5.lim ≤ y := by rw [F6.lim]; exact l1m4
              have lb := arr_lt b5
              have F7 : ∀ ids c, Fwd ids h5 ((h5.new (.cells ⟨0, 2, true, 0, [[eI 0, eI 0]]⟩)).setArr h5.objs.length ⟨0, 2, true, 0, [c]⟩) := fun ids c => ((Fwd.refl _ _).new _).set _ (by simp)
              have fpz' : z ∉ fp' ∧ z + 1 ∉ fp' ∧ y + 1 ∉ fp' := by
                refine ⟨fun q => ?_, fun q => ?_, fun q => ?_⟩
                all_goals
                  rcases hfp' _ q with q | q
                  · simp_all
                  · simp at q; omega
              simp [Ref.cells, lim5, b5, nl lb]
              cases bb with
              | false =>
                simp
                exact ⟨s', m', fp', R, g1, r, ⟨by omega, by omega, q3, by omega, by simp [B.f0], by simp [B.f1], by simp [B.f5], by simp [B.f7], by simp [B.f8], by simp [B.f9], by simp [B.f10], H5.fwd (F7 [] _) (by simp) (by simp), rs5.fwd (F7 [] _) (by simp), fpz', (F7 [] _).arr ra5 (by simp), l1m5, by simp; omega, hyz⟩, by simp [B.f12], (F7 [] _).arr c125 (by simp)⟩
              | true =>
                have hy5 : (y = h5.objs.length) = False := eq_false (by have := arr_lt ra5; omega)
                simp [nl lb, b5, B.f9]
                refine PutA_eq (append_own (els := R.map Ref.cells) (ys := [[eI rr.slot, eI rr.gen]]) (by simp [nl (arr_lt ra5), ra5, hy5]) (by simp) (by simp [elsOf]) (by simp) (by simp; omega) (by simp; omega)) ?_
                simp
                have F8 : Fwd [y + 1] h5 ((((h5.new (.cells ⟨0, 2, true, 0, [[eI 0, eI 0]]⟩)).setArr h5.objs.length ⟨0, 2, true, 0, [[eI rr.slot, eI rr.gen]]⟩).new (.cells ⟨0, 2, true, 0, [[eI rr.slot, eI rr.gen]]⟩)).setArr (y + 1) ⟨g1 + 1, 2, true, 0, R.map Ref.cells ++ [[eI rr.slot, eI rr.gen]]⟩) := by
                  repeat first | exact Fwd.refl _ _ | refine Fwd.set ?_ _ (by first | (simp; done) | (simp; omega)) | refine Fwd.new ?_ _
                refine ⟨s', m', fp', R ++ [rr], g1 + 1, r, ⟨by simp; omega, by omega, q3, by omega, by simp [B.f0], by simp [B.f1], by simp [B.f5], by simp [B.f7], by simp [B.f8], by simp, by simp [B.f10], H5.fwd F8 (by simp; omega) (by simp; omega), rs5.fwd F8 (fun j hj q => by simp at q; subst q; exact fpz'.2.2 hj), fpz', ?_, l1m5, by simp; omega, hyz⟩, by simp [B.f12], F8.arr c125 (by simp; omega)⟩
                simp [nl (arr_lt ra5), Ref.cells, hy5]
          · have hk0 : ¬ kd % 6 = 0 := fun q => hk01 (.inl q)
            have hk1 : ¬ kd % 6 = 1 := fun q => hk01 (.inr q)
            by_cases hk4 : kd % 6 = 4
            · simp [B.f13, hk0, hk1, hk4, B.f7, B.f8, B.f11, B.c11, B.f12, B.c12, Ref.cells]
              refine PutC_of (free_ok st3 r) ?_
              rintro v h4 ⟨rfl, H4, F4⟩
              have lim4 := F4.limlen lim3
              have rs4 := rs3.fwd F4 (fun j hj q => by simp at q; rcases q with rfl | rfl <;> simp_all)
              have ra4 := F4.arr ra3 (by simp; omega)
              have c12 := F4.arr B.c12 (by simp; omega)
              obtain ⟨q1, q2, q3⟩ := rel.freed (by omega) r
              simp [B.f12, c12, Ref.cells, B.f8]
              refine PutA_of (rfree_ok rs4 (by omega) r) ?_
              rintro v h5 ⟨rfl, rs5, F6⟩
              have lim5 := F6.limlen lim4
              rw [← q1]
              simp
              have l1m4 : h4.lim ≤ y := by rw [F4.lim]; exact l1m
              exact ⟨(s.freed r).2, (m.freed r).2, fp, R, g1, r, ⟨by omega, by omega, q2, by rw [freed_len]; exact sl, by simp [B.f0], by simp [B.f1], by simp [B.f5], by simp [B.f7], by simp [B.f8], by simp [B.f9], by simp [B.f10], H4.fwd F6 fpz.2.1 fpz.1, rs5, fpz, F6.arr ra4 fpz.2.2, by rw [F6.lim]; exact l1m4, lim5, hyz⟩, by simp [B.f12], F6.arr c12 (nx _ (by omega))⟩
            · have e2 : IntKind.i64.wrap (am % 4 - 2) = am % 4 - 2 := wrap64 (by omega) (by omega)
              simp [B.f13, hk0, hk1, hk4, B.f7, B.f8, B.f11, B.c11, B.f12, B.c12, Ref.cells, r4, e2]
              refine Br_join (J := PlN z y a xs i R g1 x kd t am r h2 h3) ?_ ?_
              · have go : ∀ f' : Fr, (∀ k, k = 0 ∨ k = 1 ∨ k = 5 ∨ k = 7 ∨ k = 8 ∨ k = 9 ∨ k = 10 ∨ k = 11 ∨ k = 12 ∨ k = 13 → f'.get k = f.get k) → PlJ z y a xs i R g1 x kd t am r f' h2 h3 := fun f' e =>
                  ⟨(e 0 (by simp)).trans B.f0, (e 1 (by simp)).trans B.f1, (e 5 (by simp)).trans B.f5, (e 7 (by simp)).trans B.f7, (e 8 (by simp)).trans B.f8, (e 9 (by simp)).trans B.f9, (e 10 (by simp)).trans B.f10, (e 11 (by simp)).trans B.f11, (e 12 (by simp)).trans B.f12, (e 13 (by simp)).trans B.f13, B.c11, B.c12, B.fw⟩
                by_cases hk5 : kd % 6 = 5
                · simp [hk5]
                  exact ⟨rfl, go _ (fun k hk => by rcases hk with rfl | rfl | rfl | rfl | rfl | rfl | rfl | rfl | rfl | rfl <;> simp), am, by simp⟩
                · simp [hk5, B.f11, B.c11, r4, e2]
                  exact ⟨rfl, go _ (fun k hk => by rcases hk with rfl | rfl | rfl | rfl | rfl | rfl | rfl | rfl | rfl | rfl <;> simp), am % 4 - 2, by simp⟩
              · clear B
                rintro f h3' ⟨rfl, B, nn, f18⟩
                simp [B.f7, B.f12, B.c12, f18, Ref.cells]
                refine PutA_of (add_ok st3 r nn) ?_
                rintro v h4 ⟨rfl, H4, F4⟩
                have lim4 := F4.limlen lim3
                have rs4 := rs3.fwd F4 (fun j hj q => by simp at q; rcases q with rfl | rfl <;> simp_all)
                have ra4 := F4.arr ra3 (by simp; omega)
                have c12 := F4.arr B.c12 (by simp; omega)
                obtain ⟨q1, q2, q3, q4⟩ := rel.add (by omega) r nn
                simp [B.f12, c12, Ref.cells, B.f8, f18]
                refine PutA_of (radd_ok rs4 (by omega) r nn) ?_
                rintro v h5 ⟨rfl, rs5, F6⟩
                have lim5 := F6.limlen lim4
                rw [← q1, ← q2]
                simp
                have l1m4 : h4.lim ≤ y := by rw [F4.lim]; exact l1m
                exact ⟨(s.add r nn).2.2, (m.add r nn).2.2, fp, R, g1, r, ⟨by omega, by omega, q3, by rw [add_len]; exact sl, by simp [B.f0], by simp [B.f1], by simp [B.f5], by simp [B.f7], by simp [B.f8], by simp [B.f9], by simp [B.f10], H4.fwd F6 fpz.2.1 fpz.1, rs5, fpz, F6.arr ra4 fpz.2.2, by rw [F6.lim]; exact l1m4, lim5, hyz⟩, by simp [B.f12], F6.arr c12 (nx _ (by omega))⟩
        · clear B st3 rs3 ra3 lim3 l1m rel rl il sl fpz hfx nx d2
          rintro f h6 ⟨s, m, fp, R, g1, r, A, f12, c12⟩
          obtain ⟨q1, q2⟩ := A.rel.get r
          have g1' := get_ok A.st.toStoRd r
          simp only [Ref.cells, C0, Evt.cells] at g1'
          have il := A.il
          have F7 : ∀ c ids, Fwd ids h6 ((h6.new (.cells ⟨0, 6, true, 0, [[eI 0, eI 0, eI 0, eI 0, eI 0, eI 0]]⟩)).setArr h6.objs.length ⟨0, 6, true, 0, [c]⟩) := fun c ids => ((Fwd.refl _ _).new _).set _ (by simp)
          have lb := arr_lt c12
          simp [A.f7, f12, c12, Ref.cells, g1', A.lim, A.f8, nl lb]
          refine PutA_eq (rget_ok (A.rs.rd.fwd (F7 _ _)) (by omega) r) ?_
          rw [← q1]
          have l2 : h6.lim ≤ h6.objs.length + 1 := by have := A.lim; omega
          have hF : Fwd [] h6 ((((h6.new (.cells ⟨0, 6, true, 0, [[eI 0, eI 0, eI 0, eI 0, eI 0, eI 0]]⟩)).setArr h6.objs.length ⟨0, 6, true, 0, [(s.get r).1.cells]⟩).new (.cells ⟨0, 6, true, 0, [[eI 0, eI 0, eI 0, eI 0, eI 0, eI 0]]⟩)).setArr (h6.objs.length + 1) ⟨0, 6, true, 0, [(s.get r).1.cells]⟩) := by
            repeat first | exact Fwd.refl _ _ | refine Fwd.set ?_ _ (by simp) | refine Fwd.new ?_ _
          simp only [Evt.cells] at hF
          have k1 := count_ok (A.st.toStoRd.fwd hF (by simp) (by simp)) r
          have k2 := rcount_ok (A.rs.rd.fwd hF) (by omega) r
          have k3 := used_ok (A.st.toStoRd.fwd hF (by simp) (by simp))
          have k4 := rused_ok (A.rs.rd.fwd hF) (by omega) false
          have k5 := live_ok (A.st.toStoRd.fwd hF (by simp) (by simp))
          have k6 := rused_ok (A.rs.rd.fwd hF) (by omega) true
          simp only [Ref.cells, C0] at k1 k2 k3 k4 k5 k6
          have hx6 : (x = h6.objs.length) = False := eq_false (by omega)
          simp [A.f0, A.f1, A.f5, A.f9, A.f7, f12, c12, Ref.cells, A.f8, nl lb, hx6, Evt.cells, l2, k1, k2, k3, k4, k5, k6, ← q2, A.rel.used, A.rel.lives, A.f10, ei]
          exact ⟨60 - (i + 1), by omega, i + 1, by omega, rfl, s, m, fp, R, g1, ⟨A.rl, A.il, A.rel, A.sl, by simp [A.f0], by simp [A.f1], by simp [A.f5], by simp [A.f7], by simp [A.f8], by simp [A.f9], by simp, A.st.fwd hF (by simp) (by simp), A.rs.fwd hF (by simp), A.fpz, hF.arr A.ra (by simp), A.lim1, by have := A.lim; simp; omega, A.lt⟩⟩
    · have fin : ∀ (fr : Fr) (v : EV) (h : Hp), True := fun _ _ _ => trivial
      by_cases hn : 1 ≤ a ∧ a ≤ 4096
      · obtain ⟨an, rfl⟩ : ∃ an : Nat, a = an := ⟨a.toNat, by omega⟩
        have w := new_ok an h2 (by omega) A.lim
        have n1 : 1 ≤ an ∧ an ≤ 4096 := by omega
        by_cases h1 : i < xs.length
        · have h2' : ¬ i < 60 := fun q => hstop ⟨h1, q⟩
          have h3' : ¬ (i : Int) < 60 := by omega
          simp [A.f0, A.f1, A.f5, A.f7, A.f8, A.f9, A.f10, h1, h2', h3']
          refine PutA_of w ?_
          rintro v h4 ⟨rfl, _, _⟩
          have n2 : (1 : Int) ≤ an ∧ (an : Int) ≤ 4096 := by omega
          simp [n1, n2, Ends]
        · simp [A.f0, A.f1, A.f5, A.f7, A.f8, A.f9, A.f10, h1]
          refine PutA_of w ?_
          rintro v h4 ⟨rfl, _, _⟩
          have n2 : (1 : Int) ≤ an ∧ (an : Int) ≤ 4096 := by omega
          simp [n1, n2, Ends]
      · have w := new_nil a h2 hn
        by_cases h1 : i < xs.length
        · have h2' : ¬ i < 60 := fun q => hstop ⟨h1, q⟩
          have h3' : ¬ (i : Int) < 60 := by omega
          simp [A.f0, A.f1, A.f5, A.f7, A.f8, A.f9, A.f10, h1, h2', h3']
          refine PutA_of w ?_
          rintro v h4 ⟨rfl, rfl⟩
          by_cases q1 : 1 ≤ a
          · have q2 : ¬ a ≤ 4096 := fun q => hn ⟨q1, q⟩
            simp [q1, q2, Ends]
          · simp [q1, Ends]
        · simp [A.f0, A.f1, A.f5, A.f7, A.f8, A.f9, A.f10, h1]
          refine PutA_of w ?_
          rintro v h4 ⟨rfl, rfl⟩
          by_cases q1 : 1 ≤ a
          · have q2 : ¬ a ≤ 4096 := fun q => hn ⟨q1, q⟩
            simp [q1, q2, Ends]
          · simp [q1, Ends]

theorem storePlays_D : ∀ xss, Typed [([.int .i64], false), ([.slice [.int .i64, .int .i64, .int .i64] true], false)] xss → C0 n_StorePlays (argsEV [([.int .i64], false), ([.slice [.int .i64, .int .i64, .int .i64] true], false)] xss) ⟨[], 0⟩ = some (eB true, ⟨[], 0⟩) := by
  intro xss h
  simp only [Typed, PTs] at h
  obtain ⟨_, _, rfl, ⟨_, _, rfl, ha, rfl⟩, ⟨_, _, rfl, ⟨_, _, rfl, hb, rfl⟩, rfl⟩⟩ := h
  simp only [PT] at ha
  obtain ⟨a, rfl, ha⟩ := ha
  simp only [PT] at hb
  obtain ⟨xs, rfl, hl, hx⟩ := hb
  have : IntKind.min .i64 = -9223372036854775808 ∧ IntKind.max .i64 = 9223372036854775807 := ⟨rfl, rfl⟩
  exact storePlays_ok a (by omega) xs (acts_pt hx) _

end Dk.A
