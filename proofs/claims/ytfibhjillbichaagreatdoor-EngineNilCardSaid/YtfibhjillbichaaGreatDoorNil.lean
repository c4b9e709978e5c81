/- Of no engine nothing comes; there is none of a config that is not right, nor of too many clients. -/
import Derived.Test.YtfibhjillbichaaGreatDoorEngNew
set_option linter.unusedVariables false
set_option linter.unusedSimpArgs false
set_option linter.unusedSectionVars false
namespace Dk.N
open Go Dk

theorem rest_ok (x n : Int) (hx : -9223372036854775808 ≤ x ∧ x < 9223372036854775808) (hn : 0 < n) (hb : n < 1000000) : ∃ r : Int, 0 ≤ r ∧ r < n ∧ ∀ h, C0 n_sibylref23_Rest [eI x, eI n] h = some (eI r, h) := by
  have h1 : -n < x.tmod n := Int.lt_tmod_of_pos x hn
  have h2 : x.tmod n < n := Int.tmod_lt_of_pos x hn
  refine ⟨(x.tmod n + n).tmod n, Int.tmod_nonneg _ (by omega), Int.tmod_lt_of_pos _ hn, fun h => ?_⟩
  refine call_loc noExt_mono (f := n_sibylref23_Rest) rfl rfl rfl fun h0 e0 el => ?_
  have hne : ¬ n = 0 := by omega
  have w1 : IntKind.i64.wrap (x.tmod n + n) = x.tmod n + n := wrap64 (by omega) (by omega)
  simp [Ends, hne, w1]
theorem step_nil (p : Int) (h : Hp) : WA (C0 n_engine_Engine_Step [.nilp, eI p] h) fun v h' => v = eB false ∧ Fwd [] h h' := by
  refine call_W noExt_mono (f := n_engine_Engine_Step) rfl rfl ?_
  simp [ones, Ends, Fwd.refl]
theorem tasks_nil (h : Hp) : WA (C0 n_engine_Engine_Tasks [.nilp] h) fun v h' => v = eI 0 ∧ Fwd [] h h' := by
  refine call_W noExt_mono (f := n_engine_Engine_Tasks) rfl rfl ?_
  simp [ones, Ends, Fwd.refl]
theorem steps_nil (h : Hp) : WA (C0 n_engine_Engine_Steps [.nilp] h) fun v h' => v = eI 0 ∧ Fwd [] h h' := by
  refine call_W noExt_mono (f := n_engine_Engine_Steps) rfl rfl ?_
  simp [ones, Ends, Fwd.refl]
theorem quiet_nil (h : Hp) : WA (C0 n_engine_Engine_Quiet [.nilp] h) fun v h' => v = eB true ∧ Fwd [] h h' := by
  refine call_W noExt_mono (f := n_engine_Engine_Quiet) rfl rfl ?_
  simp [ones, Ends, Fwd.refl]
theorem log_nil (h : Hp) : WA (C0 n_engine_Engine_Log [.nilp] h) fun v h' => v = .nilp ∧ Fwd [] h h' := by
  refine call_W noExt_mono (f := n_engine_Engine_Log) rfl rfl ?_
  simp [ones, Ends, Fwd.refl]
theorem merger_nil (h : Hp) : WA (C0 n_engine_Engine_Merger [.nilp] h) fun v h' => v = .nilp ∧ Fwd [] h h' := by
  refine call_W noExt_mono (f := n_engine_Engine_Merger) rfl rfl ?_
  simp [ones, Ends, Fwd.refl]
theorem worker_nil (p : Int) (h : Hp) : WA (C0 n_engine_Engine_Worker [.nilp, eI p] h) fun v h' => v = .nilp ∧ Fwd [] h h' := by
  refine call_W noExt_mono (f := n_engine_Engine_Worker) rfl rfl ?_
  simp [ones, Ends, Fwd.refl]
theorem ended_nil (h : Hp) : WA (C0 n_engine_Engine_Ended [.nilp] h) fun v h' => (∃ id g sz o f, v = .arr id g sz o 0 f) ∧ Fwd [] h h' := by
  refine call_W noExt_mono (f := n_engine_Engine_Ended) rfl rfl ?_
  simp [ones, Ends]
  repeat first | exact Fwd.refl _ _ | refine Fwd.new ?_ _
theorem open_nil (h : Hp) : WA (C0 n_engine_Engine_Open [.nilp] h) fun v h' => (∃ id g sz o f, v = .arr id g sz o 0 f) ∧ Fwd [] h h' := by
  refine call_W noExt_mono (f := n_engine_Engine_Open) rfl rfl ?_
  simp [ones, Ends]
  repeat first | exact Fwd.refl _ _ | refine Fwd.new ?_ _
theorem round_nil (h : Hp) : WA (C0 n_engine_Engine_Round [.nilp] h) fun v h' => v = eI 0 ∧ Fwd [] h h' := by
  refine call_W noExt_mono (f := n_engine_Engine_Round) rfl rfl ?_
  simp [ones, Ends]
  refine Run_loop (fun k fr hh => fr.get 0 = .nilp ∧ fr.get 3 = eI 0 ∧ hh = h) (n := 0) ⟨by simp, by simp, rfl⟩ ?_
  rintro k fr hh ⟨g0, g3, rfl⟩
  simp [g0, g3]
  refine PutA_of (quiet_nil _) ?_
  rintro _ H1 ⟨rfl, f1⟩
  simp [g0, g3, Ends, f1.back]
  exact f1
theorem bn1 : binOp .neq .ptr .nilp .nilp = some (eB false) := rfl
theorem bn2 (a b c d : Nat) : binOp .neq .ptr (.ptr a b c d) .nilp = some (eB true) := rfl
theorem engine_any {s a b q r o z : Int} {n idk : Nat} (h : Hp) (hl : h.lim ≤ h.objs.length) {d : Bool} (hd : d = true ↔ RightP s a b q r o z) (hk : h.arr idk 0 = some ⟨0, 1, false, 0, List.replicate n [.full []]⟩) :
    WA (C0 n_engine_New [.agg (cells s a b q r o z), .arr idk 0 1 0 n false] h) fun v h' => binOp .neq .ptr v .nilp = some (eB (d && decide ((n : Int) ≤ 8))) ∧ Fwd [] h h' := by
  cases d with
  | false =>
    refine (engine_none h fun R => (by cases hd.2 R)).mono ?_
    rintro v h' ⟨rfl, f⟩
    exact ⟨rfl, f⟩
  | true =>
    have R := hd.1 rfl
    by_cases hn : n ≤ 8
    · have e : decide ((n : Int) ≤ 8) = true := decide_eq_true (by omega)
      refine (engine_new h hl hn R hk).mono ?_
      rintro v h' ⟨⟨id, rfl⟩, f⟩
      rw [e]
      exact ⟨rfl, f⟩
    · have e : decide ((n : Int) ≤ 8) = false := decide_eq_false (by omega)
      refine (engine_many h hl (by omega) R).mono ?_
      rintro v h' ⟨rfl, f⟩
      rw [e]
      exact ⟨rfl, f⟩

/-! The engine of the plain config, run by the kernel. -/
theorem piece {f : Nat} {args : List EV} {H : HK} {h : Hp} (e : (run f args H).isSome = true) (R : HRel H h) : ∃ h', C0 f args h = some (resV (run f args H), h') ∧ HRel (resH (run f args H)) h' := run_piece (ext := noExt) small noYield noExt_mono e R
def zeroSpec : EV := .agg [eI 0, eI 0, eI 0, eI 0, eI 0, eI 0, eI 0, .full [], .full []]
noncomputable def r1 : R := run n_sibylref23_Spec_Config [zeroSpec] noneK
noncomputable def r2 : R := run n_engine_New [resV r1, .full []] (resH r1)
noncomputable def rw (p : Int) : R := run n_engine_Engine_Worker [resV r2, eI p] (resH r2)
theorem r1_eq : r1 = run n_sibylref23_Spec_Config [zeroSpec] noneK := by kernel_rfl
theorem r2_eq : r2 = run n_engine_New [resV r1, .full []] (resH r1) := by kernel_rfl
theorem rw_eq (p : Int) : rw p = run n_engine_Engine_Worker [resV r2, eI p] (resH r2) := by kernel_rfl
theorem piece2 {f : Nat} {args : List EV} {H : HK} {h : Hp} {r : R} (hr : r = run f args H) (e : r.isSome = true) (R : HRel H h) : ∃ h', C0 f args h = some (resV r, h') ∧ HRel (resH r) h' := by
  subst hr
  exact piece e R
theorem made : r1.isSome = true ∧ r2.isSome = true := ⟨by kernel_rfl, by kernel_rfl⟩
def isPtr (r : R) : Option Bool := match r with
  | some (.ptr .., _) => some true
  | some (.nilp, _) => some false
  | _ => none
theorem rw_neg (m : Nat) : isPtr (rw (.negSucc m)) = some false := by kernel_rfl
theorem rw_zero : isPtr (rw (.ofNat 0)) = some true := by kernel_rfl
theorem rw_more (m : Nat) : isPtr (rw (.ofNat (m + 1))) = some false := by kernel_rfl
theorem rw_is (p : Int) : isPtr (rw p) = some (decide (p = 0)) := by
  match p with
  | .negSucc m => exact rw_neg m
  | .ofNat 0 => exact rw_zero
  | .ofNat (m + 1) =>
    rw [rw_more]
    congr 1
theorem lim2 : (resH r2).lim = 0 := by kernel_rfl
theorem y_ok {h : Hp} (hl : h.lim ≤ h.objs.length) : ∃ c v h1 h2, C0 n_sibylref23_Spec_Config [zeroSpec] h = some (c, h1) ∧ C0 n_engine_New [c, .full []] h1 = some (v, h2) ∧ h2.lim ≤ h2.objs.length ∧
    ∀ p, ∃ w h3, C0 n_engine_Engine_Worker [v, eI p] h2 = some (w, h3) ∧ binOp .neq .ptr w .nilp = some (eB (decide (p = 0))) := by
  obtain ⟨k1, e1, R1⟩ : ∃ h', C0 n_sibylref23_Spec_Config [zeroSpec] ⟨[], 0⟩ = some (resV r1, h') ∧ HRel (resH r1) h' := piece2 r1_eq made.1 noneK_rel
  obtain ⟨k2, e2, R2⟩ : ∃ h', C0 n_engine_New [resV r1, .full []] k1 = some (resV r2, h') ∧ HRel (resH r2) h' := piece2 r2_eq made.2 R1
  obtain ⟨h1, f1, S1⟩ := call_ren closed _ _ _ _ _ _ _ e1 (Sh.empty h hl)
  obtain ⟨h2, f2, S2⟩ := call_ren closed _ _ _ _ _ _ _ e2 S1
  have a1 : [zeroSpec].map (EV.ren fun i => i + h.objs.length) = [zeroSpec] := closed_rens rfl
  rw [a1] at f1
  refine ⟨_, _, h1, h2, f1, f2, ?_, fun p => ?_⟩
  · have h0 : k2.lim ≤ k2.objs.length := by rw [← R2.lim, lim2]; exact Nat.zero_le _
    have := S2.lim _ h0
    have e := S2.last
    rw [e] at this
    exact this
  · have hp := rw_is p
    have hs : (rw p).isSome = true := by
      cases hq : rw p with
      | none => rw [hq] at hp; cases hp
      | some x => rfl
    obtain ⟨k3, e3, R3⟩ := piece2 (rw_eq p) hs R2
    obtain ⟨h3, f3, S3⟩ := call_ren closed _ _ _ _ _ _ _ e3 S2
    refine ⟨_, h3, f3, ?_⟩
    revert hp
    cases hq : rw p with
    | none => intro q; cases q
    | some x =>
      obtain ⟨w, H⟩ := x
      intro q
      have key : ∀ b, isPtr (some (w, H)) = some b → binOp .neq .ptr (w.ren fun i => i + h.objs.length) .nilp = some (eB b) := by
        intro b
        cases w <;> simp only [isPtr] <;> intro q <;> cases q
        · simp [EV.ren]
        · simp [EV.ren]
      exact key _ q
theorem engineNil_ok (s a b q r o z c p : Int) (hc : -9223372036854775808 ≤ c ∧ c < 9223372036854775808) : C0 n_sibyllaw23_EngineNil [.agg (cells s a b q r o z), eI c, eI p] ⟨[], 0⟩ = some (eB true, ⟨[], 0⟩) := by
  refine call_loc noExt_mono (f := n_sibyllaw23_EngineNil) rfl rfl rfl fun h0 e0 el => ?_
  obtain ⟨os, lim⟩ := h0
  simp at e0 el
  subst e0 el
  obtain ⟨m, q1, q2, hr⟩ := rest_ok c 13 hc (by omega) (by omega)
  obtain ⟨n, rfl⟩ : ∃ n : Nat, m = n := ⟨m.toNat, by omega⟩
  obtain ⟨d, hd⟩ : ∃ d : Bool, d = true ↔ RightP s a b q r o z := by
    by_cases R : RightP s a b q r o z
    · exact ⟨true, fun _ => R, fun _ => rfl⟩
    · exact ⟨false, fun h => (by cases h), fun h => absurd h R⟩
  have k1 : (n : Int) * 24 ≤ 140737488355328 ∧ (n : Int) < 9223372036854775808 := by omega
  simp [cells, ones]
  refine PutA_eq (hr _) ?_
  simp
  refine PutA_eq (refRight_ok _ hd) ?_
  simp [k1]
  have a0 : ((⟨[], 0⟩ : Hp).new (.cells ⟨0, 7, true, 0, [[eI s, eI a, eI b, eI q, eI r, eI o, eI z]]⟩)).lim ≤ 0 := Nat.le_refl _
  refine PutA_of (engine_any (idk := 1) (n := n) _ (by simp) hd (by simp)) ?_
  rintro x H1 ⟨hx, f1⟩
  simp
  refine PutA_of (step_nil p _) ?_
  rintro _ H2 ⟨rfl, f2⟩
  simp
  refine PutA_of (tasks_nil _) ?_
  rintro _ H3 ⟨rfl, f3⟩
  simp
  refine PutA_of (steps_nil _) ?_
  rintro _ H4 ⟨rfl, f4⟩
  have w0 : IntKind.i64.wrap 0 = 0 := wrap64 (by omega) (by omega)
  simp [w0]
  refine PutA_of (round_nil _) ?_
  rintro _ H5 ⟨rfl, f5⟩
  simp [w0]
  refine PutA_of (ended_nil _) ?_
  rintro _ H6 ⟨⟨_, _, _, _, _, rfl⟩, f6⟩
  simp
  refine PutA_of (open_nil _) ?_
  rintro _ H7 ⟨⟨_, _, _, _, _, rfl⟩, f7⟩
  simp [w0]
  refine PutA_of (quiet_nil _) ?_
  rintro _ H8 ⟨rfl, f8⟩
  simp
  refine PutA_of (log_nil _) ?_
  rintro _ H9 ⟨rfl, f9⟩
  simp
  refine PutA_of (worker_nil p _) ?_
  rintro _ H10 ⟨rfl, f10⟩
  simp
  refine PutA_of (merger_nil _) ?_
  rintro _ H11 ⟨rfl, f11⟩
  have F := ((((((((((f1.trans f2).trans f3).trans f4).trans f5).trans f6).trans f7).trans f8).trans f9).trans f10).trans f11)
  have L := F.limlen (by simp)
  obtain ⟨c1, y, K1, K2, y1, y2, y3, y4⟩ := y_ok L
  simp
  refine PutA_eq y1 ?_
  simp
  refine PutA_eq y2 ?_
  simp
  refine PutA_eq (awake_ok y3) ?_
  obtain ⟨w, K3, y5, y6⟩ := y4 p
  have hx2 := hx
  clear hx hd
  by_cases h8 : (n : Int) ≤ 8
  · cases d with
    | false =>
      simp [hx2, h8]
      refine PutA_eq y5 ?_
      by_cases hp : p = 0 <;> simp [y6, hp, Ends]
    | true =>
      simp [hx2, h8]
      refine PutA_eq y5 ?_
      by_cases hp : p = 0 <;> simp [y6, hp, Ends]
  · cases d with
    | false =>
      simp [hx2, h8]
      refine PutA_eq y5 ?_
      by_cases hp : p = 0 <;> simp [y6, hp, Ends]
    | true =>
      simp [hx2, h8]
      refine PutA_eq y5 ?_
      by_cases hp : p = 0 <;> simp [y6, hp, Ends]
theorem engineNil_D : ∀ xss, Typed [([.int .i64, .int .i64, .int .i64, .int .i64, .int .i64, .int .i64, .int .i64], true), ([.int .i64], false), ([.int .i64], false)] xss → C0 n_sibyllaw23_EngineNil (argsEV [([.int .i64, .int .i64, .int .i64, .int .i64, .int .i64, .int .i64, .int .i64], true), ([.int .i64], false), ([.int .i64], false)] xss) ⟨[], 0⟩ = some (eB true, ⟨[], 0⟩) := by
  intro xss h
  simp only [Typed, PTs, PT] at h
  obtain ⟨_, _, rfl, ⟨_, _, rfl, ⟨s, rfl, -⟩, ⟨_, _, rfl, ⟨a, rfl, -⟩, ⟨_, _, rfl, ⟨b, rfl, -⟩, ⟨_, _, rfl, ⟨q, rfl, -⟩, ⟨_, _, rfl, ⟨r, rfl, -⟩, ⟨_, _, rfl, ⟨e, rfl, -⟩, ⟨_, _, rfl, ⟨f, rfl, -⟩, rfl⟩⟩⟩⟩⟩⟩⟩, ⟨_, _, rfl, ⟨_, _, rfl, ⟨n, rfl, hn⟩, rfl⟩, ⟨_, _, rfl, ⟨_, _, rfl, ⟨p, rfl, -⟩, rfl⟩, rfl⟩⟩⟩ := h
  have e1 : IntKind.i64.min = -9223372036854775808 := by decide
  have e2 : IntKind.i64.max = 9223372036854775807 := by decide
  rw [e1, e2] at hn
  exact engineNil_ok s a b q r e f n p ⟨hn.1, by omega⟩
end Dk.N
