/- Of no desk nothing comes; there is none of numbers that may not be. -/
import Derived.Test.YtcbigcpdbidlaaaNone
set_option linter.unusedVariables false
set_option linter.unusedSimpArgs false
set_option linter.unusedSectionVars false
namespace Dk.Q
open Go Dk

theorem do_nil (k : Int) (h : Hp) (hl : h.lim ≤ h.objs.length) {P : EV → Hp → Prop}
    (hP : P (EV.tup [EV.agg [EV.p (PD.int IntKind.i64 1), eI 0, EV.full []], EV.arr (h.objs.length + 3) 0 2 0 0 false])
      ((((((⟨h.objs, h.lim⟩ : Hp).new (Obj.cells ⟨0, 14, true, 0, [[eI k, eI 0, eI 0, eI 0, eI 0, eI 0, eI 0, eI 0, eI 0, eI 0, eI 0, EV.p (PD.list []), eI 0, eB false]]⟩)).new (Obj.cells ⟨0, 3, true, 0, [[eI 0, eI 0, EV.full []]]⟩)).new (Obj.cells ⟨0, 2, true, 0, []⟩)).setArr
          (h.objs.length + 1) ⟨0, 3, true, 0, [[EV.p (PD.int IntKind.i64 1), eI 0, EV.full []]]⟩).new (Obj.cells ⟨0, 2, true, 0, []⟩))) :
    WA (C0 n_qDo [.nilp, eI 1, .agg (rawC k 0 0), .full []] h) P := by
  refine do_call (as := [.nilp, eI 1, .agg (cmd k 0 0).cells, .p (.list [])]) (os := h.objs) (by simp [shareVs, shareV, rawC, cmd, Cmd.cells]) ?_
  refine do_run rfl ?_
  simp [Cmd.cells, cmd, Ends, d_qDo, lk hl]
  exact hP

theorem new_bad (c : Conf) (h : Hp) (hl : h.lim ≤ h.objs.length) (h1 : ¬ (1 ≤ c.q ∧ c.q ≤ 4096 ∧ 1 ≤ c.o ∧ c.o ≤ 4096)) :
    WA (C0 n_qNew [.agg c.cells] h) fun v h' => v = .nilp ∧ Fwd [] h h' := by
  refine call_W noExt_mono (f := n_qNew) rfl rfl ?_
  have fw : ∀ o : Obj, True := fun _ => trivial
  by_cases a1 : c.q < 1
  · simp [Conf.cells, Ends, a1]
    repeat first | exact Fwd.refl _ _ | refine Fwd.new ?_ _
  · by_cases a2 : 4096 < c.q
    · simp [Conf.cells, Ends, a1, a2]
      repeat first | exact Fwd.refl _ _ | refine Fwd.new ?_ _
    · by_cases a3 : c.o < 1
      · simp [Conf.cells, Ends, a1, a2, a3]
        repeat first | exact Fwd.refl _ _ | refine Fwd.new ?_ _
      · have a4 : 4096 < c.o := by omega
        simp [Conf.cells, Ends, a1, a2, a3, a4]
        repeat first | exact Fwd.refl _ _ | refine Fwd.new ?_ _

theorem new_any (c : Conf) (h : Hp) (hl : h.lim ≤ h.objs.length) {d : Bool} (hd : d = decide (1 ≤ c.q ∧ c.q ≤ 4096 ∧ 1 ≤ c.o ∧ c.o ≤ 4096)) :
    WA (C0 n_qNew [.agg c.cells] h) fun v h' => binOp .neq .ptr v .nilp = some (eB d) := by
  by_cases h1 : 1 ≤ c.q ∧ c.q ≤ 4096 ∧ 1 ≤ c.o ∧ c.o ≤ 4096
  · refine WA.mono (new_ok c h hl h1) ?_
    rintro v h' ⟨id, idm, rfl, -⟩
    rw [hd, decide_eq_true h1]
    rfl
  · refine WA.mono (new_bad c h hl h1) ?_
    rintro v h' ⟨rfl, -⟩
    rw [hd, decide_eq_false h1]
    rfl

theorem waiting_nil (h : Hp) : C0 n_qWaiting [.nilp, eI 1] h = some (eI 0, h) := by
  refine call_loc noExt_mono (f := n_qWaiting) rfl rfl rfl fun h0 e0 el => ?_
  simp [Ends]
theorem held_nil (h : Hp) : C0 n_qHeld [.nilp] h = some (eI 0, h) := by
  refine call_loc noExt_mono (f := n_qHeld) rfl rfl rfl fun h0 e0 el => ?_
  simp [Ends]
theorem live_nil (h : Hp) : C0 n_qLive [.nilp] h = some (eI 0, h) := by
  refine call_loc noExt_mono (f := n_qLive) rfl rfl rfl fun h0 e0 el => ?_
  simp [Ends]
theorem lost_nil (h : Hp) : C0 n_qLost [.nilp, eI 1] h = some (eB false, h) := by
  refine call_loc noExt_mono (f := n_qLost) rfl rfl rfl fun h0 e0 el => ?_
  simp [Ends]

theorem awake_six (o1 o2 o3 o4 o5 o6 : Obj) : runC (treeOf progList) 1000 40 n_qawake [] (heapOf [o1, o2, o3, o4, o5, o6] 0) = some (eB true, heapOf [o1, o2, o3, o4, o5, o6] 0) := by kernel_rfl
theorem heapOf_is {l : List Obj} {lim : Nat} (hl : l.length < 1000000) {h : Hp} (R : HRel (heapOf l lim) h) : h = ⟨l, lim⟩ := by
  have R2 := heapOf_ok (l := l) (lim := lim) hl
  obtain ⟨os, m⟩ := h
  have h1 : os = l := List.ext_getElem? fun i => (R.tr.1 i).symm.trans (R2.tr.1 i)
  have h2 : m = lim := R.lim.symm
  rw [h1, h2]
theorem awake_in (o1 o2 o3 o4 o5 o6 : Obj) : C0 n_qawake [] ⟨[o1, o2, o3, o4, o5, o6], 0⟩ = some (eB true, ⟨[o1, o2, o3, o4, o5, o6], 0⟩) := by
  obtain ⟨h', e, R⟩ := runC_ok (ext := noExt) small noYield noExt_mono (awake_six o1 o2 o3 o4 o5 o6) (heapOf_ok (by simp))
  rw [heapOf_is (by simp) R] at e
  exact e

theorem queueNil_ok (c : Conf) (k : Int) : C0 n_QueueNil [.agg c.cells, eI k] ⟨[], 0⟩ = some (eB true, ⟨[], 0⟩) := by
  refine call_loc noExt_mono (f := n_QueueNil) rfl rfl rfl fun h0 e0 el => ?_
  obtain ⟨os, lim⟩ := h0
  simp at e0 el
  subst e0 el
  simp [Conf.cells, ones]
  refine PutA_of (do_nil k _ (by simp) (P := fun v h' => v = EV.tup [EV.agg [EV.p (PD.int IntKind.i64 1), eI 0, EV.full []], EV.arr 4 0 2 0 0 false] ∧ h'.lim = 0 ∧ h'.objs = [Obj.cells ⟨0, 7, true, 0, [[eI c.a, eI c.b, eI c.c, eI c.q, eI c.e, eI c.o, eI c.g]]⟩,
    (Obj.cells ⟨0, 14, true, 0, [[eI k, eI 0, eI 0, eI 0, eI 0, eI 0, eI 0, eI 0, eI 0, eI 0, eI 0, EV.p (PD.list []), eI 0, eB false]]⟩), Obj.cells ⟨0, 3, true, 0, [[EV.p (PD.int IntKind.i64 1), eI 0, EV.full []]]⟩, Obj.cells ⟨0, 2, true, 0, []⟩, Obj.cells ⟨0, 2, true, 0, []⟩]) ⟨rfl, rfl, rfl⟩) ?_
  rintro v X ⟨rfl, z1, z2⟩
  have n1 : X.objs.length = 5 := by rw [z2]; rfl
  have a1 : X.arr 0 0 = some ⟨0, 7, true, 0, [[eI c.a, eI c.b, eI c.c, eI c.q, eI c.e, eI c.o, eI c.g]]⟩ := by simp [Hp.arr, z2]
  have aw : ∀ a, C0 n_qawake [] ((X.new (.cells ⟨0, 3, true, 0, [[eI 0, eI 0, .full []]]⟩)).setArr 5 a) = some (eB true, (X.new (.cells ⟨0, 3, true, 0, [[eI 0, eI 0, .full []]]⟩)).setArr 5 a) := fun a => by
    obtain ⟨os, lim⟩ := X
    simp only at z1 z2
    subst z1 z2
    exact awake_in _ _ _ _ _ _
  have l1 := arr_lt a1
  clear z2
  have w0 : IntKind.i64.wrap 0 = 0 := wrap64 (by omega) (by omega)
  have w1 : IntKind.i64.wrap (0 + 0) = 0 := wrap64 (by omega) (by omega)
  obtain ⟨d, hd⟩ : ∃ d : Bool, d = decide (1 ≤ c.q ∧ c.q ≤ 4096 ∧ 1 ≤ c.o ∧ c.o ≤ 4096) := ⟨_, rfl⟩
  have hn := fun h hl => new_any c h hl hd
  simp only [Conf.cells] at hn
  have hd : (1 ≤ c.q ∧ c.q ≤ 4096 ∧ 1 ≤ c.o ∧ c.o ≤ 4096 ∧ d = true) ∨ (d = false ∧ (¬ 1 ≤ c.q ∨ (1 ≤ c.q ∧ ¬ c.q ≤ 4096) ∨ (1 ≤ c.q ∧ c.q ≤ 4096 ∧ ¬ 1 ≤ c.o) ∨ (1 ≤ c.q ∧ c.q ≤ 4096 ∧ 1 ≤ c.o ∧ ¬ c.o ≤ 4096))) := by
    cases d with
    | true => have := of_decide_eq_true hd.symm; exact .inl ⟨this.1, this.2.1, this.2.2.1, this.2.2.2, rfl⟩
    | false =>
      have := of_decide_eq_false hd.symm
      refine .inr ⟨rfl, ?_⟩
      omega
  rcases hd with ⟨b1, b2, b3, b4, rfl⟩ | ⟨rfl, b1 | ⟨b1, b2⟩ | ⟨b1, b2, b3⟩ | ⟨b1, b2, b3, b4⟩⟩
  · simp [n1, a1, z1, nl l1, b1, b2, b3, b4]
    refine PutA_eq (aw _) ?_
    simp [n1, a1, z1, nl l1]
    refine PutA_eq (waiting_nil _) ?_
    simp
    refine PutA_eq (held_nil _) ?_
    simp [w0, w1]
    refine PutA_eq (live_nil _) ?_
    simp [w0, w1]
    refine PutA_eq (lost_nil _) ?_
    simp [n1, a1, z1, nl l1]
    refine PutA_of (hn _ (by simp [z1])) ?_
    intro v Y eY
    simp [eY, Ends]
  · simp [n1, a1, z1, nl l1, b1]
    refine PutA_eq (aw _) ?_
    simp [n1, a1, z1, nl l1]
    refine PutA_eq (waiting_nil _) ?_
    simp
    refine PutA_eq (held_nil _) ?_
    simp [w0, w1]
    refine PutA_eq (live_nil _) ?_
    simp [w0, w1]
    refine PutA_eq (lost_nil _) ?_
    simp [n1, a1, z1, nl l1]
    refine PutA_of (hn _ (by simp [z1])) ?_
    intro v Y eY
    simp [eY, Ends]
  · simp [n1, a1, z1, nl l1, b1, b2]
    refine PutA_eq (aw _) ?_
    simp [n1, a1, z1, nl l1]
    refine PutA_eq (waiting_nil _) ?_
    simp
    refine PutA_eq (held_nil _) ?_
    simp [w0, w1]
    refine PutA_eq (live_nil _) ?_
    simp [w0, w1]
    refine PutA_eq (lost_nil _) ?_
    simp [n1, a1, z1, nl l1]
    refine PutA_of (hn _ (by simp [z1])) ?_
    intro v Y eY
    simp [eY, Ends]
  · simp [n1, a1, z1, nl l1, b1, b2, b3]
    refine PutA_eq (aw _) ?_
    simp [n1, a1, z1, nl l1]
    refine PutA_eq (waiting_nil _) ?_
    simp
    refine PutA_eq (held_nil _) ?_
    simp [w0, w1]
    refine PutA_eq (live_nil _) ?_
    simp [w0, w1]
    refine PutA_eq (lost_nil _) ?_
    simp [n1, a1, z1, nl l1]
    refine PutA_of (hn _ (by simp [z1])) ?_
    intro v Y eY
    simp [eY, Ends]
  · simp [n1, a1, z1, nl l1, b1, b2, b3, b4]
    refine PutA_eq (aw _) ?_
    simp [n1, a1, z1, nl l1]
    refine PutA_eq (waiting_nil _) ?_
    simp
    refine PutA_eq (held_nil _) ?_
    simp [w0, w1]
    refine PutA_eq (live_nil _) ?_
    simp [w0, w1]
    refine PutA_eq (lost_nil _) ?_
    simp [n1, a1, z1, nl l1]
    refine PutA_of (hn _ (by simp [z1])) ?_
    intro v Y eY
    simp [eY, Ends]
theorem queueNil_D : ∀ xss, Typed [([.int .i64, .int .i64, .int .i64, .int .i64, .int .i64, .int .i64, .int .i64], true), ([.int .i64], false)] xss → C0 n_QueueNil (argsEV [([.int .i64, .int .i64, .int .i64, .int .i64, .int .i64, .int .i64, .int .i64], true), ([.int .i64], false)] xss) ⟨[], 0⟩ = some (eB true, ⟨[], 0⟩) := by
  intro xss h
  simp only [Typed, PTs, PT] at h
  obtain ⟨_, _, rfl, ⟨_, _, rfl, ⟨a, rfl, -⟩, ⟨_, _, rfl, ⟨b, rfl, -⟩, ⟨_, _, rfl, ⟨c, rfl, -⟩, ⟨_, _, rfl, ⟨d, rfl, -⟩, ⟨_, _, rfl, ⟨e, rfl, -⟩, ⟨_, _, rfl, ⟨f, rfl, -⟩, ⟨_, _, rfl, ⟨g, rfl, -⟩, rfl⟩⟩⟩⟩⟩⟩⟩, ⟨_, _, rfl, ⟨_, _, rfl, ⟨k, rfl, -⟩, rfl⟩, rfl⟩⟩ := h
  exact queueNil_ok ⟨a, b, c, d, e, f, g⟩ k
end Dk.Q
