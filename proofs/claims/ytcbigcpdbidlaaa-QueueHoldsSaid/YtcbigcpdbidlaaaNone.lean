/- What is asked of a query that is not there. -/
import Derived.Test.YtcbigcpdbidlaaaUpd
import Derived.Test.YtcbigcpdbidlaaaAwake
set_option linter.unusedVariables false
set_option linter.unusedSimpArgs false
set_option linter.unusedSectionVars false
namespace Dk.Q
open Go Dk

def cmd (k i n : Int) : Cmd := ⟨k, i, n, 0, 0, 0, 0, 0, 0, 0, 0, [], 0, false⟩
def rawC (k i n : Int) : List EV := [eI k, eI i, eI n, eI 0, eI 0, eI 0, eI 0, eI 0, eI 0, eI 0, eI 0, .full [], eI 0, eB false]
theorem do_raw {id : Nat} {s k i n : Int} {h : Hp} {K : EV → Hp → Prop} (hw : WA (do0 (doArgs id s (cmd k i n) (.p (.list []))) h) K) : WA (C0 n_qDo [.ptr id 0 0 0, eI s, .agg (rawC k i n), .full []] h) K :=
  do_call (as := doArgs id s (cmd k i n) (.p (.list []))) (os := h.objs) (by simp [shareVs, shareV, rawC, doArgs, cmd, Cmd.cells]) hw

/-- What Do told: an error's number, no refs. -/
structure Told (h h' : Hp) (v : EV) (err : Int) (r : EV) (fr : List Nat) : Prop where
  is : ∃ n m, v = .tup [.agg [eI err, n, m], r] ∧ ones [n, m] = true
  own : Own h' 2 true r [] fr
  new : ∀ x ∈ fr, h.objs.length ≤ x
theorem Tells.told {h h' : Hp} {v : EV} {err n : Int} (H : Tells h h' v err n []) : ∃ r fr, Told h h' v err r fr := by
  obtain ⟨r, fr, e, o, g⟩ := H.is
  exact ⟨r, fr, ⟨_, _, e, by simp [ones, EV.one]⟩, o, fun x hx => (g x hx).resolve_left (by simp)⟩

theorem do_poll_none {h : Hp} {id idm : Nat} {ps : List (Nat × List Nat)} {d : Desk} (H : DeskAt h id idm ps d) (hl : h.lim ≤ h.objs.length) {s : Int} {c : Cmd} {o : EV} (hk : c.kind = 4) (hn : 1 ≤ c.n) (hf : fresh c.id d) :
    WA (do0 (doArgs id s c o) h) fun v h' => Tells h h' v 15 0 [] ∧ Fwd [] h h' := by
  refine do_poll hl hk fun h1 f1 hl1 hl2 => ?_
  have H1 := H.fwd f1 (by simp)
  obtain ⟨v, h2, e, hT, f2⟩ := poll_none H1 hl1 hn hf
  obtain ⟨r, fr, rfl, ow, g⟩ := hT.is
  refine ⟨_, h2, e, f2.mono (by simp), _, r, rfl, rfl, by simp [ones], fun h3 f3 => ⟨⟨r, fr, rfl, ow.fwd f3 fun x hx q => ?_, fun y hy => ?_⟩, ?_⟩⟩
  · have := f1.len
    simp at q
    rcases g x hx with q2 | q2
    · cases q2
    · omega
  · rcases g y hy with q2 | q2
    · cases q2
    · have := f1.len
      exact .inr (by omega)
  · exact (f1.trans f2).trans' f3 (by simp)

/-- One query, that has nothing. -/
abbrev one (cf : Conf) : Desk := ⟨cf, [(5, ⟨[], false⟩)]⟩
structure Calm (h : Hp) (id idm p : Nat) (fp : List Nat) (cf : Conf) : Prop where
  at_ : DeskAt h id idm [(p, fp)] (one cf)
  lim : h.lim ≤ h.objs.length

theorem ask_few {h : Hp} {id idm p : Nat} {fp : List Nat} {cf : Conf} (H : Calm h id idm p fp cf) {s i n : Int} (hn : n < 1) :
    WA (C0 n_qDo [.ptr id 0 0 0, eI s, .agg (rawC 4 i n), .full []] h) fun v h' => ∃ r fr, Told h h' v 1 r fr ∧ Fwd [] h h' := by
  refine do_raw (WA.mono (do_poll_arg H.at_ H.lim (c := cmd 4 i n) rfl hn) fun v h' ⟨hT, f⟩ => ?_)
  obtain ⟨r, fr, t⟩ := hT.told
  exact ⟨r, fr, t, f⟩
theorem ask_none {h : Hp} {id idm p : Nat} {fp : List Nat} {cf : Conf} (H : Calm h id idm p fp cf) {s i n : Int} (hn : 1 ≤ n) (hi : i ≠ 5) :
    WA (C0 n_qDo [.ptr id 0 0 0, eI s, .agg (rawC 4 i n), .full []] h) fun v h' => ∃ r fr, Told h h' v 15 r fr ∧ Fwd [] h h' := by
  refine do_raw (WA.mono (do_poll_none H.at_ H.lim (c := cmd 4 i n) rfl hn (by intro l hl; simp at hl; subst hl; exact Ne.symm hi)) fun v h' ⟨hT, f⟩ => ?_)
  obtain ⟨r, fr, t⟩ := hT.told
  exact ⟨r, fr, t, f⟩
theorem ask_five {h : Hp} {id idm p : Nat} {fp : List Nat} {cf : Conf} (H : Calm h id idm p fp cf) {s n : Int} (hn : 1 ≤ n) :
    WA (C0 n_qDo [.ptr id 0 0 0, eI s, .agg (rawC 4 5 n), .full []] h) fun v h' => ∃ r fr, Told h h' v 0 r fr ∧ Fwd (p :: fp) h h' ∧ ∃ fp', DeskAt h' id idm [(p, fp')] (one cf) ∧ ∀ x ∈ fp', h.objs.length ≤ x := by
  refine do_raw (WA.mono (do_poll_some (a := []) (b := []) (pa := []) (pb := []) H.at_ rfl (by simp) H.lim (c := cmd 4 5 n) rfl hn rfl (fun _ => rfl) (by simp) (by simp [allRefs])) fun v h' ⟨m, r, fm, fr, fp', e, om, or, gm, gr, f, gp, hD⟩ => ?_)
  refine ⟨r, fr, ⟨⟨_, _, e, by show (EV.one (eI 0) && (EV.one m && true)) = true; rw [om.one.2]; rfl⟩, by simpa [allRefs, refCells] using or, fun x hx => (gr x hx).resolve_left (by simp)⟩, f.mono (by simp), fp', by simpa using hD, fun x hx => (gp x hx).resolve_left (by simp)⟩

theorem ask_kind {h : Hp} {id idm p : Nat} {fp : List Nat} {cf : Conf} (H : Calm h id idm p fp cf) {s k : Int} (hk : 6 ≤ k) :
    WA (C0 n_qDo [.ptr id 0 0 0, eI s, .agg (rawC k 0 0), .full []] h) fun v h' => ∃ r fr, Told h h' v 1 r fr ∧ Fwd [] h h' := by
  refine do_raw (WA.mono (bad_kind H.at_ H.lim (c := cmd k 0 0) ⟨by simp [cmd]; omega, by simp [cmd]; omega, by simp [cmd]; omega, by simp [cmd]; omega, by simp [cmd]; omega⟩) fun v h' ⟨hT, f⟩ => ?_)
  obtain ⟨r, fr, t⟩ := hT.told
  exact ⟨r, fr, t, f⟩
theorem ask_more {h : Hp} {id idm p : Nat} {fp : List Nat} {cf : Conf} (H : Calm h id idm p fp cf) (hq : cf.q = 1) {s : Int} :
    WA (C0 n_qDo [.ptr id 0 0 0, eI s, .agg (rawC 2 0 0), .full []] h) fun v h' => ∃ r fr, Told h h' v 16 r fr ∧ Fwd [] h h' := by
  refine do_raw (WA.mono (reg_full H.at_ H.lim (c := cmd 2 0 0) rfl (by simp [one, hq])) fun v h' ⟨hT, f⟩ => ?_)
  obtain ⟨r, fr, t⟩ := hT.told
  exact ⟨r, fr, t, f⟩
theorem end_none {h : Hp} {id idm p : Nat} {fp : List Nat} {cf : Conf} (H : Calm h id idm p fp cf) {s i : Int} (hi : i ≠ 5) :
    WA (C0 n_qDo [.ptr id 0 0 0, eI s, .agg (rawC 3 i 0), .full []] h) fun v h' => ∃ r fr, Told h h' v 15 r fr ∧ Fwd [] h h' := by
  refine do_raw (WA.mono (unreg_none H.at_ H.lim (c := cmd 3 i 0) rfl (by intro l hl; simp at hl; subst hl; exact Ne.symm hi)) fun v h' ⟨hT, f⟩ => ?_)
  obtain ⟨r, fr, t⟩ := hT.told
  exact ⟨r, fr, t, f⟩
theorem end_five {h : Hp} {id idm p : Nat} {fp : List Nat} {cf : Conf} (H : Calm h id idm p fp cf) {s : Int} :
    WA (C0 n_qDo [.ptr id 0 0 0, eI s, .agg (rawC 3 5 0), .full []] h) fun v h' => ∃ r fr, Told h h' v 0 r fr ∧ Fwd [idm] h h' := by
  refine do_raw (WA.mono (unreg_some (a := []) (b := []) (pa := []) (pb := []) H.at_ rfl (by simp) H.lim (c := cmd 3 5 0) rfl rfl (by simp) (by simp [allRefs])) fun v h' ⟨r, fr, e, or, gr, f, _⟩ => ?_)
  exact ⟨r, fr, ⟨⟨_, _, e, by simp [ones, EV.one]⟩, by simpa [allRefs, refCells] using or, fun x hx => (gr x hx).resolve_left (by simp)⟩, f⟩

/-- A poll of any query: what is told, and the desk behind it. -/
theorem ask_any {h : Hp} {id idm p : Nat} {fp : List Nat} {cf : Conf} (H : Calm h id idm p fp cf) {s i : Int} :
    WA (C0 n_qDo [.ptr id 0 0 0, eI s, .agg (rawC 4 i 1), .full []] h) fun v h' => ∃ r fr fp', Told h h' v (if i = 5 then 0 else 15) r fr ∧ Fwd (p :: fp) h h' ∧ DeskAt h' id idm [(p, fp')] (one cf) ∧ ∀ x ∈ fp', x ∈ fp ∨ h.objs.length ≤ x := by
  by_cases hi : i = 5
  · subst hi
    refine WA.mono (ask_five H (by simp)) fun v h' ⟨r, fr, t, f, fp', hD, g⟩ => ⟨r, fr, fp', by simpa using t, f, hD, fun x hx => .inr (g x hx)⟩
  · refine WA.mono (ask_none H (by simp) hi) fun v h' ⟨r, fr, t, f⟩ => ⟨r, fr, fp, by simpa [hi] using t, f.mono (by simp), H.at_.fwd f (by simp), fun x hx => .inl hx⟩
theorem end_any {h : Hp} {id idm p : Nat} {fp : List Nat} {cf : Conf} (H : Calm h id idm p fp cf) {s i : Int} :
    WA (C0 n_qDo [.ptr id 0 0 0, eI s, .agg (rawC 3 i 0), .full []] h) fun v h' => ∃ r fr, Told h h' v (if i = 5 then 0 else 15) r fr ∧ Fwd [idm] h h' := by
  by_cases hi : i = 5
  · subst hi
    refine WA.mono (end_five H) fun v h' ⟨r, fr, t, f⟩ => ⟨r, fr, by simpa using t, f⟩
  · refine WA.mono (end_none H hi) fun v h' ⟨r, fr, t, f⟩ => ⟨r, fr, by simpa [hi] using t, f.mono (by simp)⟩

/-- What was told lies in a box, and in a row, away from the desk. -/
structure Kept (h : Hp) (b : Nat) (err : Int) (r : EV) (fr own : List Nat) : Prop where
  box : ∃ n m, h.arr b 0 = some ⟨0, 3, true, 0, [[eI err, n, m]]⟩
  row : Own h 2 true r [] fr
  away : b ∉ own ∧ ∀ x ∈ fr, x ∉ own
theorem Kept.fwd {h h' : Hp} {b : Nat} {err : Int} {r : EV} {fr own ids own' : List Nat} (K : Kept h b err r fr own) (f : Fwd ids h h') (hi : ∀ x ∈ ids, x ∈ own) (ho : ∀ x ∈ own', x ∈ own ∨ h.objs.length ≤ x) : Kept h' b err r fr own' := by
  obtain ⟨⟨n, m, a⟩, o, w1, w2⟩ := K
  refine ⟨⟨n, m, f.arr a fun q => w1 (hi _ q)⟩, o.fwd f fun x hx q => w2 x hx (hi _ q), fun q => ?_, fun x hx q => ?_⟩
  · rcases ho _ q with q | q
    · exact w1 q
    · have := arr_lt a; omega
  · rcases ho _ q with q | q
    · exact w2 x hx q
    · have := o.lt x hx; omega
theorem Kept.mk' {h0 h h' : Hp} {err : Int} {r : EV} {fr own : List Nat} {n m : EV} (w : ∀ x ∈ fr, h0.objs.length ≤ x) (o : Own h 2 true r [] fr) (f : Fwd [] h h') (ha : h'.arr h.objs.length 0 = some ⟨0, 3, true, 0, [[eI err, n, m]]⟩) (hl : h0.objs.length ≤ h.objs.length) (ho : ∀ x ∈ own, x < h0.objs.length) : Kept h' h.objs.length err r fr own := by
  refine ⟨⟨n, m, ha⟩, o.fwd f (by simp), fun q => ?_, fun x hx q => ?_⟩
  · have := ho _ q; omega
  · have := ho _ q; have := w x hx; omega
/-- The box that a told answer is put in. -/
def boxed (h : Hp) (cs : List EV) : Hp := (h.new (.cells ⟨0, 3, true, 0, [[eI 0, eI 0, .full []]]⟩)).setArr h.objs.length ⟨0, 3, true, 0, [cs]⟩
theorem boxed_fwd (h : Hp) (cs : List EV) : Fwd [] h (boxed h cs) := by
  unfold boxed
  repeat first | exact Fwd.refl _ _ | refine Fwd.set ?_ _ (by simp) | refine Fwd.new ?_ _
theorem boxed_arr (h : Hp) (cs : List EV) : (boxed h cs).arr h.objs.length 0 = some ⟨0, 3, true, 0, [cs]⟩ := by simp [boxed]
theorem boxed_lim (h : Hp) (cs : List EV) : (boxed h cs).lim = h.lim := by simp [boxed]

theorem own_len {h : Hp} {r : EV} {fr : List Nat} (o : Own h 2 true r [] fr) (X : Hp) : lenOf 0 r X = some 0 := by
  have e := o.len
  generalize hq : ([] : List (List EV)) = q at o e
  cases o with
  | nil => simp [lenOf]
  | arr => rw [← hq] at e; simpa [lenOf] using e

theorem low16 (k : Int) : ∃ w : Int, binOp .and .none (eI k) (.p (.int .i64 65535)) = some (eI w) ∧ 0 ≤ w ∧ w ≤ 65535 := by
  refine ⟨((BitVec.ofInt 64 k &&& BitVec.ofInt 64 65535).toNat : Int), ?_, by omega, ?_⟩
  · have hb : (BitVec.ofInt 64 k &&& BitVec.ofInt 64 65535).toNat ≤ 65535 := by
      rw [BitVec.toNat_and]
      exact Nat.le_trans Nat.and_le_right (by decide)
    show some (EV.p (.int .i64 (IntKind.wrap .i64 ((BitVec.ofInt 64 k &&& BitVec.ofInt 64 65535).toNat : Int)))) = _
    rw [wrap64 (by omega) (by omega)]
  · have hb : (BitVec.ofInt 64 k &&& BitVec.ofInt 64 65535).toNat ≤ 65535 := by
      rw [BitVec.toNat_and]
      exact Nat.le_trans Nat.and_le_right (by decide)
    omega

theorem queueNone_ok (i n k : Int) (hn : -9223372036854775808 ≤ n ∧ n < 9223372036854775808) (hk : -9223372036854775808 ≤ k ∧ k < 9223372036854775808) : C0 n_QueueNone [eI i, eI n, eI k] ⟨[], 0⟩ = some (eB true, ⟨[], 0⟩) := by
  refine call_loc noExt_mono (f := n_QueueNone) rfl rfl rfl fun h0 e0 el => ?_
  obtain ⟨os, lim⟩ := h0
  simp at e0 el
  subst e0 el
  simp
  refine PutA_eq awake_ok ?_
  simp
  refine PutA_of (new_ok ⟨0, 0, 0, 1, 0, 1, 0⟩ ⟨[], 0⟩ (by simp) (by decide)) ?_
  rintro v h1 ⟨id, idm, rfl, H1, -, -, f1⟩
  have l1 : h1.lim ≤ h1.objs.length := f1.limlen (by simp)
  have z1 : h1.lim = 0 := f1.lim
  simp
  refine PutA_of (do_raw (s := 5) (k := 2) (i := 0) (n := 0) (reg_new H1 l1 (c := cmd 2 0 0) rfl (by simp) (by intro l hl; simp at hl))) ?_
  rintro v h2 ⟨p, -, f2, -, H2⟩
  have l2 : h2.lim ≤ h2.objs.length := f2.limlen l1
  have z2 : h2.lim = 0 := f2.lim.trans z1
  have C2 : Calm h2 id idm p [] ⟨0, 0, 0, 1, 0, 1, 0⟩ := ⟨by simpa using H2, l2⟩
  clear H1 H2 f1 f2
  simp
  refine Br_join (fun f h => ∃ few : Int, few < 1 ∧ f.get 0 = eI i ∧ f.get 2 = eI k ∧ f.get 7 = eB true ∧ f.get 8 = .ptr id 0 0 0 ∧ f.get 9 = eI few ∧ h = h2) ?_ ?_
  · by_cases h0 : 0 < n
    · have w : IntKind.wrap .i64 (0 - n) = 0 - n := wrap64 (by omega) (by omega)
      simp at w
      simp [h0, w]
      omega
    · simp [h0]
      omega
  rintro f h ⟨few, hf, g0, g2, g7, g8, g9, rfl⟩
  simp [g0, g2, g7, g8, g9]
  have own2 : ∀ x ∈ [idm, p], x < h.objs.length := fun x hx => C2.at_.lt x (by simp at hx; rcases hx with rfl | rfl <;> simp [own])
  refine PutA_of (ask_few C2 (s := 6) (i := 5) hf) ?_
  rintro v h3 ⟨r1, fr1, ⟨⟨n1, m1, rfl, o1⟩, O1, w1⟩, f3⟩
  have z3 : h3.lim = 0 := f3.lim.trans z2
  simp [o1, z3, g0, g2, g7, g8, g9]
  obtain ⟨h4, e4⟩ : ∃ x, x = boxed h3 [eI 1, n1, m1] := ⟨_, rfl⟩
  have f4 : Fwd [] h3 h4 := by rw [e4]; exact boxed_fwd _ _
  have z4 : h4.lim = 0 := f4.lim.trans z3
  have K1 : Kept h4 h3.objs.length 1 r1 fr1 [idm, p] := Kept.mk' w1 O1 f4 (by rw [e4]; exact boxed_arr _ _) f3.len own2
  have C4 : Calm h4 id idm p [] ⟨0, 0, 0, 1, 0, 1, 0⟩ := ⟨C2.at_.fwd (f3.trans f4) (by simp), by omega⟩
  have own4 : ∀ x ∈ [idm, p], x < h4.objs.length := fun x hx => C4.at_.lt x (by simp at hx; rcases hx with rfl | rfl <;> simp [own])
  rw [boxed] at e4
  rw [← e4]
  refine PutA_of (ask_any C4 (s := 7) (i := i)) ?_
  rintro v h5 ⟨r2, fr2, fp5, ⟨⟨n2, m2, rfl, o2⟩, O2, w2⟩, f5, H5, p5⟩
  have z5 : h5.lim = 0 := f5.lim.trans z4
  have p5' : ∀ x ∈ fp5, h4.objs.length ≤ x := fun x hx => (p5 x hx).resolve_left (by simp)
  have K1 := K1.fwd (own' := [idm]) f5 (by simp) (by simp)
  simp [o2, z5, g0, g2, g7, g8, g9]
  obtain ⟨h6, e6⟩ : ∃ x, x = boxed h5 [eI (if i = 5 then 0 else 15), n2, m2] := ⟨_, rfl⟩
  have f6 : Fwd [] h5 h6 := by rw [e6]; exact boxed_fwd _ _
  have z6 : h6.lim = 0 := f6.lim.trans z5
  have K1 := K1.fwd f6 (by simp) (fun x hx => .inl hx)
  have own5 : ∀ x ∈ [idm], x < h4.objs.length := fun x hx => own4 x (by simp at hx; simp [hx])
  have K2 : Kept h6 h5.objs.length (if i = 5 then 0 else 15) r2 fr2 [idm] := Kept.mk' w2 O2 f6 (by rw [e6]; exact boxed_arr _ _) f5.len own5
  have C6 : Calm h6 id idm p fp5 ⟨0, 0, 0, 1, 0, 1, 0⟩ := ⟨H5.fwd f6 (by simp), by omega⟩
  rw [boxed] at e6
  rw [← e6]
  obtain ⟨w, hw, hw1, hw2⟩ := low16 k
  have ww : IntKind.wrap .i64 (6 + w) = 6 + w := wrap64 (by omega) (by omega)
  rw [hw]
  simp [ww, o2, z5, g0, g2, g7, g8, g9]
  refine PutA_of (ask_kind C6 (s := 8) (k := 6 + w) (by omega)) ?_
  rintro v h7 ⟨r3, fr3, ⟨⟨n3, m3, rfl, o3⟩, O3, w3⟩, f7⟩
  have z7 : h7.lim = 0 := f7.lim.trans z6
  simp [o3, z7, g0, g2, g7, g8, g9]
  obtain ⟨h8, e8⟩ : ∃ x, x = boxed h7 [eI 1, n3, m3] := ⟨_, rfl⟩
  have f8 : Fwd [] h7 h8 := by rw [e8]; exact boxed_fwd _ _
  have z8 : h8.lim = 0 := f8.lim.trans z7
  have own6 : ∀ x ∈ [idm], x < h6.objs.length := fun x hx => C6.at_.lt x (by simp at hx; simp [own, hx])
  have K1 := K1.fwd (own' := [idm]) (f7.trans f8) (by simp) (by simp)
  have K2 := K2.fwd (own' := [idm]) (f7.trans f8) (by simp) (by simp)
  have K3 : Kept h8 h7.objs.length 1 r3 fr3 [idm] := Kept.mk' w3 O3 f8 (by rw [e8]; exact boxed_arr _ _) f7.len own6
  have C8 : Calm h8 id idm p fp5 ⟨0, 0, 0, 1, 0, 1, 0⟩ := ⟨C6.at_.fwd (f7.trans f8) (by simp), by omega⟩
  rw [boxed] at e8
  rw [← e8]
  refine PutA_of (ask_more C8 rfl (s := 9)) ?_
  rintro v h9 ⟨r4, fr4, ⟨⟨n4, m4, rfl, o4⟩, O4, w4⟩, f9⟩
  have z9 : h9.lim = 0 := f9.lim.trans z8
  simp [o4, z9, g0, g2, g7, g8, g9]
  obtain ⟨ha, ea⟩ : ∃ x, x = boxed h9 [eI 16, n4, m4] := ⟨_, rfl⟩
  have fa : Fwd [] h9 ha := by rw [ea]; exact boxed_fwd _ _
  have za : ha.lim = 0 := fa.lim.trans z9
  have own8 : ∀ x ∈ [idm], x < h8.objs.length := fun x hx => C8.at_.lt x (by simp at hx; simp [own, hx])
  have K1 := K1.fwd (own' := [idm]) (f9.trans fa) (by simp) (by simp)
  have K2 := K2.fwd (own' := [idm]) (f9.trans fa) (by simp) (by simp)
  have K3 := K3.fwd (own' := [idm]) (f9.trans fa) (by simp) (by simp)
  have K4 : Kept ha h9.objs.length 16 r4 fr4 [idm] := Kept.mk' w4 O4 fa (by rw [ea]; exact boxed_arr _ _) f9.len own8
  have Ca : Calm ha id idm p fp5 ⟨0, 0, 0, 1, 0, 1, 0⟩ := ⟨C8.at_.fwd (f9.trans fa) (by simp), by omega⟩
  rw [boxed] at ea
  rw [← ea]
  refine PutA_of (end_any Ca (s := 10) (i := i)) ?_
  rintro v hb ⟨r5, fr5, ⟨⟨n5, m5, rfl, o5⟩, O5, w5⟩, fb⟩
  have zb : hb.lim = 0 := fb.lim.trans za
  have lb : hb.objs.length ≥ 0 := Nat.zero_le _
  have K1 := K1.fwd (own' := []) fb (by simp) (by simp)
  have K2 := K2.fwd (own' := []) fb (by simp) (by simp)
  have K3 := K3.fwd (own' := []) fb (by simp) (by simp)
  have K4 := K4.fwd (own' := []) fb (by simp) (by simp)
  obtain ⟨⟨x1, y1, b1⟩, q1, -⟩ := K1
  obtain ⟨⟨x2, y2, b2⟩, q2, -⟩ := K2
  obtain ⟨⟨x3, y3, b3⟩, q3, -⟩ := K3
  obtain ⟨⟨x4, y4, b4⟩, q4, -⟩ := K4
  have t1 := arr_lt b1
  have t2 := arr_lt b2
  have t3 := arr_lt b3
  have t4 := arr_lt b4
  have s1 : ∀ X : Hp, lenOf 0 r1 X = some 0 := own_len q1
  have s2 : ∀ X : Hp, lenOf 0 r2 X = some 0 := own_len q2
  have s3 : ∀ X : Hp, lenOf 0 r3 X = some 0 := own_len q3
  have s4 : ∀ X : Hp, lenOf 0 r4 X = some 0 := own_len q4
  have s5 : ∀ X : Hp, lenOf 0 r5 X = some 0 := own_len O5
  have w0 : IntKind.i64.wrap 0 = 0 := wrap64 (by omega) (by omega)
  by_cases hi : i = 5
  · rw [if_pos hi] at b2
    subst hi
    simp [o5, zb, g0, g2, g7, g8, g9, b1, b2, b3, b4, nl t1, nl t2, nl t3, nl t4, s1, s2, s3, s4, s5, Ends, w0]
  · rw [if_neg hi] at b2
    simp [o5, zb, g0, g2, g7, g8, g9, b1, b2, b3, b4, nl t1, nl t2, nl t3, nl t4, s1, s2, s3, s4, s5, Ends, hi, w0]
theorem queueNone_D : ∀ xss, Typed [([.int .i64], false), ([.int .i64], false), ([.int .i64], false)] xss → C0 n_QueueNone (argsEV [([.int .i64], false), ([.int .i64], false), ([.int .i64], false)] xss) ⟨[], 0⟩ = some (eB true, ⟨[], 0⟩) := by
  intro xss h
  simp only [Typed, PTs, PT] at h
  obtain ⟨_, _, rfl, ⟨_, _, rfl, ⟨a, rfl, ha⟩, rfl⟩, ⟨_, _, rfl, ⟨_, _, rfl, ⟨b, rfl, hb⟩, rfl⟩, ⟨_, _, rfl, ⟨_, _, rfl, ⟨c, rfl, hc⟩, rfl⟩, rfl⟩⟩⟩ := h
  have e1 : IntKind.i64.min = -9223372036854775808 := by decide
  have e2 : IntKind.i64.max = 9223372036854775807 := by decide
  rw [e1, e2] at hb hc
  exact queueNone_ok a b c ⟨hb.1, by omega⟩ ⟨hc.1, by omega⟩
end Dk.Q
