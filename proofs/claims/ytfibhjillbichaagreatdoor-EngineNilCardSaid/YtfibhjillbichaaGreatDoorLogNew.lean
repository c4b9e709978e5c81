/- Engines: the log that New makes. -/
import Derived.Test.YtfibhjillbichaaGreatDoorMake
set_option linter.unusedVariables false
set_option linter.unusedSimpArgs false
set_option linter.unusedSectionVars false
namespace Dk.N
open Go Dk

def LogAt (h0 : Hp) (s a b q r o z : Int) (id : Nat) (h : Hp) : Prop := h0.objs.length ≤ id ∧ Fwd [] h0 h ∧ ∃ rest, rest.length = 8 ∧ h.arr id 0 = some ⟨0, 15, true, 0, [cells s a b q r o z ++ rest]⟩
structure LI (h0 : Hp) (s a b q r o z : Int) (idc id : Nat) (k : Nat) (fr : Fr) (h : Hp) (i : Nat) : Prop where
  le : (i : Int) ≤ s
  k : k = s.toNat - i
  g1 : fr.get 1 = .ptr idc 0 0 0
  g3 : fr.get 3 = .ptr id 0 0 0
  g26 : fr.get 26 = eI s
  g27 : fr.get 27 = eI i
  ne : idc ≠ id
  nc : h0.objs.length ≤ idc
  ni : h0.objs.length ≤ id
  ac : h.arr idc 0 = some ⟨0, 7, true, 0, [cells s a b q r o z]⟩
  fwd : Fwd [] h0 h
  row : ∃ x7 x8 x9 x10 x11 x12 U x14 els fp, h.arr id 0 = some ⟨0, 15, true, 0, [cells s a b q r o z ++ [x7, x8, x9, x10, x11, x12, U, x14]]⟩ ∧ Own h 1 false U els fp ∧ els.length = i ∧ ∀ x ∈ fp, x ≠ id ∧ x ≠ idc ∧ h0.objs.length ≤ x
theorem log_new {s a b q r o z : Int} (h : Hp) (hl : h.lim ≤ h.objs.length) (R : RightP s a b q r o z) :
    WA (C0 n_log_New [.agg (cells s a b q r o z)] h) fun v h' => ∃ id, v = .ptr id 0 0 0 ∧ LogAt h s a b q r o z id h' := by
  refine call_W noExt_mono (f := n_log_New) rfl rfl ?_
  have hR := R
  unfold RightP at hR
  simp [cells, ones]
  refine PutA_eq (logRight_ok (s := s) (a := a) (b := b) (q := q) (r := r) (o := o) (f := z) _ (d := true) ⟨fun _ => R, fun _ => rfl⟩) ?_
  have k1 : 0 ≤ s ∧ s * 8 ≤ 140737488355328 ∧ s < 9223372036854775808 := by omega
  have ws : IntKind.i64.wrap (s + 1) = s + 1 := wrap64 (by omega) (by omega)
  simp [k1, ws]
  obtain ⟨H1, e1⟩ : ∃ H1, H1 = (((h.new (.cells ⟨0, 7, true, 0, [[eI s, eI a, eI b, eI q, eI r, eI o, eI z]]⟩)).new (.cells ⟨0, 1, false, 0, List.replicate s.toNat [eI 0]⟩)).new (.map [])) := ⟨_, rfl⟩
  rw [← e1]
  have a1 : H1.arr h.objs.length 0 = some ⟨0, 7, true, 0, [[eI s, eI a, eI b, eI q, eI r, eI o, eI z]]⟩ := by simp [e1]
  have F1 : Fwd [] h H1 := by rw [e1]; repeat first | exact Fwd.refl _ _ | refine Fwd.new ?_ _
  have L1 := F1.limlen hl
  clear e1
  refine PutC_of (store_new _ (by omega)) ?_
  rintro _ H2 ⟨i2, rfl, f2⟩
  have a2 := f2.arr a1 (by simp)
  have F2 := F1.trans f2
  have L2 := F2.limlen hl
  clear a1 F1 L1 f2
  simp [a2]
  refine PutC_of (epoch_new _ L2 (by omega)) ?_
  rintro _ H3 ⟨i3, rfl, f3⟩
  have a3 := f3.arr a2 (by simp)
  have F3 := F2.trans f3
  have L3 := F3.limlen hl
  clear a2 F2 L2 f3
  simp [a3, ones]
  refine PutC_of (ring_new _ (by omega)) ?_
  rintro _ H4 ⟨i4, rfl, f4⟩
  have a4 := f4.arr a3 (by simp)
  have F4 := F3.trans f4
  have L4 := F4.limlen hl
  clear a3 F3 L3 f4
  have l4 := arr_lt a4
  simp [a4, ones, nl l4]
  refine Run_loop (fun k fr hh => ∃ i, LI h s a b q r o z h.objs.length H4.objs.length k fr hh i) (n := s.toNat) ?_ ?_
  · have h5 : h.objs.length ≤ H4.objs.length := F4.len
    exact ⟨0, by omega, rfl, by simp, by simp, by simp, by simp, by omega, by omega, h5, by simp [a4, nl l4, cells], F4.new _, .ptr i2 0 0 0, .ptr i3 0 0 0, eI 0, eB false, .ptr i4 0 0 0, .arr (h.objs.length + 1) 0 1 0 s.toNat false, .full [], .map (h.objs.length + 2), [], [], by simp [cells], .nil, rfl, by simp⟩
  rintro k fr hh ⟨i, i1, i2, g1, g3, g26, g27, ne, nc, ni, ac, F, x7, x8, x9, x10, x11, x12, U, x14, els, fp, ar, OW, el, fpn⟩
  by_cases hi : (i : Int) < s
  · have hU := OW.one.2
    have hL := F.limlen hl
    simp [g1, g3, g26, g27, hi, ar, ac, cells]
    refine PutC_of (ring_new2 _ (by omega)) ?_
    rintro _ H5 ⟨i5, rfl, f5⟩
    have ar5 := f5.arr ar (by simp)
    have ac5 := f5.arr ac (by simp)
    have OW5 := OW.fwd f5 (by simp)
    have F5 := F.trans f5
    have L5 := F5.limlen hl
    have ll := arr_lt ar5
    have lc := arr_lt ac5
    have eU : EV.eqb U U = true := by cases OW with | nil => simp [PD.eqbs] | arr => simp
    simp [ar5, cells, eU, ones]
    refine PutA_of (Own.append (OW5.fwd ((Fwd.refl [] _).new _) (by simp)) (ys := [[.ptr i5 0 0 0]]) (by simp [elsOf]) (by simp; omega) (by simp; omega)) ?_
    rintro U' H6 ⟨fp', O6, f6, gr⟩
    have fn : ∀ (o : Obj), Fwd [] H5 (H5.new o) := fun o => (Fwd.refl [] _).new o
    have ni' : H4.objs.length ∉ fp := fun q => (fpn _ q).1 rfl
    have nc' : h.objs.length ∉ fp := fun q => (fpn _ q).2.1 rfl
    have ar6 := f6.arr ((fn _).arr ar5 (by simp)) ni'
    have ac6 := f6.arr ((fn _).arr ac5 (by simp)) nc'
    have F6 : Fwd [] h H6 := (F5.new _).trans' f6 fun x hx => .inr (fpn x hx).2.2
    have ll6 := arr_lt ar6
    have lim6 : H6.lim ≤ H4.objs.length := by rw [F6.lim]; omega
    have w1 : IntKind.i64.wrap ((i : Int) + 1) = (i : Int) + 1 := wrap64 (by omega) (by omega)
    have cU : U'.cells = [U'] := O6.one.1
    have oU : U'.one = true := O6.one.2
    simp [ar6, cells, ones, cU, oU, lim6, w1]
    have hne : ∀ x ∈ fp', x ≠ H4.objs.length := fun x hx => by
      rcases gr x hx with q | q
      · exact (fpn x q).1
      · have := q
        simp at this
        omega
    refine ⟨_, by rw [i2]; omega, i + 1, by omega, rfl, by simp, by simp, by simp, by simp, ne, nc, ni, by simp [Hp.arr_set, ac6, cells, ne], F6.set _ (.inr ni), x7, x8, x9, x10, x11, x12, U', x14, _, fp', by simp [Hp.arr_set, ll6, cells], O6.fwd ((Fwd.refl [H4.objs.length] _).set _ (.inl (by simp))) (by simpa using hne), by simp; omega, fun x hx => ?_⟩
    rcases gr x hx with q | q
    · exact fpn x q
    · have := q
      simp at this
      exact ⟨hne x hx, by omega, by omega⟩
  · simp [g1, g3, g26, g27, hi, Ends, F.back]
    exact ⟨ni, F, [x7, x8, x9, x10, x11, x12, U, x14], rfl, ar⟩
theorem log_none {s a b q r o z : Int} (h : Hp) (R : ¬ RightP s a b q r o z) :
    WA (C0 n_log_New [.agg (cells s a b q r o z)] h) fun v h' => v = .nilp ∧ Fwd [] h h' := by
  refine call_W noExt_mono (f := n_log_New) rfl rfl ?_
  simp [cells, ones]
  refine PutA_eq (logRight_ok (s := s) (a := a) (b := b) (q := q) (r := r) (o := o) (f := z) _ (d := false) ⟨fun h => (by cases h), fun h => absurd h R⟩) ?_
  simp [Ends]
  repeat first | exact Fwd.refl _ _ | refine Fwd.new ?_ _
end Dk.N
