/- StoreNil. -/
import Derived.Test.YtcbigcpdbidlaaaAwake
set_option linter.unusedVariables false
set_option linter.unusedSimpArgs false
namespace Dk.A
open Go Dk

theorem with_nil (h : Hp) (r : Ref) (f : EV) : WA (C0 n_with [.nilp, .agg r.cells, f] h) (fun v h' => v = eB false ∧ Fwd [] h h') := by
  refine call_W noExt_mono (f := n_with) rfl rfl ?_
  simp [Ref.cells, Ends]
  exact (Fwd.refl _ _).new _
theorem take_nil (h : Hp) (e : Evt) (hl : h.lim ≤ h.objs.length) : WA (C0 n_Take [.nilp, .agg e.cells] h) (fun v h' => v = .tup [.agg [eI 0, eI 0], eB false] ∧ Fwd [] h h') := by
  refine call_W noExt_mono (f := n_Take) rfl rfl ?_
  have hl1 : h.lim ≤ h.objs.length + 1 := by omega
  simp [Evt.cells, Ends, hl1]
  exact (((Fwd.refl _ _).new _).new _).set _ (by simp)
theorem free_nil (h : Hp) (r : Ref) : WA (C0 n_Free [.nilp, .agg r.cells] h) (fun v h' => v = eB false ∧ Fwd [] h h') := by
  refine call_W noExt_mono (f := n_Free) rfl rfl ?_
  simp [Ref.cells]
  refine PutA_of (with_nil _ r _) ?_
  rintro v h' ⟨rfl, F⟩
  have f1 : Fwd [] h h' := (((Fwd.refl [] h).new _).new _).trans F
  simp [Ends, f1.back, f1]
theorem add_nil (h : Hp) (r : Ref) (n : Int) (hl : h.lim ≤ h.objs.length) : WA (C0 n_Add [.nilp, .agg r.cells, eI n] h) (fun v h' => v = .tup [eI 0, eB false] ∧ Fwd [] h h') := by
  refine call_W noExt_mono (f := n_Add) rfl rfl ?_
  have hl1 : h.lim ≤ h.objs.length + 3 := by omega
  simp [Ref.cells, hl1]
  refine PutA_of (with_nil _ r _) ?_
  rintro v h' ⟨rfl, F⟩
  have e3 := F.arr (id := h.objs.length + 3) (g := 0) (ar := ⟨0, 1, false, 0, [[eI 0]]⟩) (by simp) (by simp)
  have f1 : Fwd [] h h' := by
    refine Fwd.trans ?_ F
    exact (((((Fwd.refl [] h).new _).new _).new _).new _).set _ (by simp)
  simp [Ends, f1.back, f1, e3]
theorem get_nil' (h : Hp) (r : Ref) : C0 n_Get [.nilp, .agg r.cells] h = some (.tup [.agg Evt.zero.cells, eB false], h) := by
  refine call_loc noExt_mono (f := n_Get) rfl rfl (by simp [Evt.cells, Evt.zero]) fun h0 e0 el => ?_
  simp [Ref.cells]
  refine PutA_of (with_nil _ r _) ?_
  rintro v h' ⟨rfl, F⟩
  have e3 := F.arr (id := h0.objs.length + 1) (g := 0) (ar := ⟨0, 6, true, 0, [[eI 0, eI 0, eI 0, eI 0, eI 0, eI 0]]⟩) (by simp) (by simp)
  have hl : h'.lim = h0.objs.length := F.lim.trans el
  simp [Ends, e3, hl, Evt.cells, Evt.zero, arr_lt e3]
theorem count_nil (h : Hp) (r : Ref) : C0 n_Count [.nilp, .agg r.cells] h = some (eI 0, h) := by
  refine call_loc noExt_mono (f := n_Count) rfl rfl rfl fun h0 e0 el => ?_
  simp [Ref.cells, el]
  refine PutA_of (with_nil _ r _) ?_
  rintro v h' ⟨rfl, F⟩
  have e3 := F.arr (id := h0.objs.length + 1) (g := 0) (ar := ⟨0, 1, false, 0, [[eI 0]]⟩) (by simp) (by simp)
  simp [Ends, e3]
theorem used_nil (h : Hp) : C0 n_Used [.nilp] h = some (eI 0, h) := by
  refine call_loc noExt_mono (f := n_Used) rfl rfl rfl fun h0 e0 el => ?_
  simp [Ends]
theorem live_nil (h : Hp) : C0 n_Live [.nilp] h = some (eI 0, h) := by
  refine call_loc noExt_mono (f := n_Live) rfl rfl rfl fun h0 e0 el => ?_
  simp [Ends]

theorem storeNil_ok (r : Ref) (n : Int) (h : Hp) : C0 n_StoreNil [.agg r.cells, eI n] h = some (eB true, h) := by
  refine call_loc noExt_mono (f := n_StoreNil) rfl rfl rfl fun h0 e0 el => ?_
  simp [Ref.cells]
  refine PutA_of (take_nil _ ⟨1, 0, 0, 0, 0, 0⟩ (by simp; omega)) ?_
  rintro v h1 ⟨rfl, F1⟩
  have B1 := F1.arr (id := h0.objs.length) (g := 0) (ar := ⟨0, 2, true, 0, [[eI r.slot, eI r.gen]]⟩) (by simp) (by simp)
  have l1 := F1.limlen (by simp; omega)
  have c1 := arr_lt B1
  simp [l1, B1, nl c1]
  refine PutA_of (add_nil _ r n (by simp; omega)) ?_
  rintro v h2 ⟨rfl, F2⟩
  have B2 := F2.arr (id := h0.objs.length) (g := 0) (ar := ⟨0, 2, true, 0, [[eI r.slot, eI r.gen]]⟩) (by simp [B1, nl c1]) (by simp)
  have D2 := F2.arr (id := h1.objs.length) (g := 0) (ar := ⟨0, 2, true, 0, [[eI 0, eI 0]]⟩) (by simp) (by simp)
  have l2 := F2.limlen (by simp; omega)
  have c2 := arr_lt B2
  have d2 := arr_lt D2
  have g := get_nil' h2 r
  simp only [Ref.cells, C0] at g
  simp [B2, g, Evt.cells, Evt.zero, l2, D2, nl d2, nl c2]
  have aw := awake_ok ((h2.new (Obj.cells { gen := 0, sz := 6, ag := true, frz := 0, els := [[eI 0, eI 0, eI 0, eI 0, eI 0, eI 0]] })).setArr h2.objs.length { gen := 0, sz := 6, ag := true, frz := 0, els := [[eI 0, eI 0, eI 0, eI 0, eI 0, eI 0]] })
  unfold C0 at aw
  simp [aw, D2, nl d2, nl c2, B2]
  refine PutA_of (free_nil _ r) ?_
  rintro v h3 ⟨rfl, F3⟩
  have B3 := F3.arr (id := h0.objs.length) (g := 0) (ar := ⟨0, 2, true, 0, [[eI r.slot, eI r.gen]]⟩) (by simp [B2, nl c2]) (by simp)
  have q1 := count_nil h3 r
  have q2 := used_nil h3
  have q3 := live_nil h3
  simp only [Ref.cells, C0] at q1 q2 q3
  have z : IntKind.i64.wrap 0 = 0 := rfl
  simp [B3, q1, q2, q3, z, Ends]

theorem storeNil_D : ∀ xss, Typed [([.int .i64, .int .i64], true), ([.int .i64], false)] xss → C0 n_StoreNil (argsEV [([.int .i64, .int .i64], true), ([.int .i64], false)] xss) ⟨[], 0⟩ = some (eB true, ⟨[], 0⟩) := by
  intro xss h
  simp only [Typed, PTs, PT] at h
  obtain ⟨_, _, rfl, ⟨_, _, rfl, ⟨a, rfl, ha⟩, ⟨_, _, rfl, ⟨c, rfl, hc⟩, rfl⟩⟩, ⟨_, _, rfl, ⟨_, _, rfl, ⟨b, rfl, hb⟩, rfl⟩, rfl⟩⟩ := h
  exact storeNil_ok ⟨a, c⟩ b _

end Dk.A
