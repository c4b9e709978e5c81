/- Engines: New makes one, or none. -/
import Derived.Test.YtfibhjillbichaaGreatDoorEng
set_option linter.unusedVariables false
set_option linter.unusedSimpArgs false
set_option linter.unusedSectionVars false
namespace Dk.N
open Go Dk

structure E1 (h0 : Hp) (s a b q r o z : Int) (idc idl ide idk im n : Nat) (CK : List (List EV)) (k : Nat) (fr : Fr) (h : Hp) (i : Nat) : Prop where
  le : i ≤ n
  k : k = n - i
  g2 : fr.get 2 = .ptr idc 0 0 0
  g5 : fr.get 5 = .ptr idl 0 0 0
  g6 : fr.get 6 = .ptr ide 0 0 0
  g26 : fr.get 26 = .arr idk 0 1 0 n false
  g27 : fr.get 27 = eI n
  g28 : fr.get 28 = eI i
  eng : ∃ U T eu et fu ft, Eng h0 s a b q r o z idc idl ide idk im CK h U (.full []) T eu [] et fu [] ft ∧ eu.length = i ∧ et.length = i
structure E2 (h0 : Hp) (s a b q r o z : Int) (idc idl ide idk im n : Nat) (CK : List (List EV)) (k : Nat) (fr : Fr) (h : Hp) (i : Nat) : Prop where
  le : (i : Int) ≤ s
  k : k = s.toNat - i
  g5 : fr.get 5 = .ptr idl 0 0 0
  g6 : fr.get 6 = .ptr ide 0 0 0
  g62 : fr.get 62 = eI s
  g63 : fr.get 63 = eI i
  eng : ∃ U V T eu ev et fu fv ft, Eng h0 s a b q r o z idc idl ide idk im CK h U V T eu ev et fu fv ft ∧ ev.length = i ∧ et.length = n + i
theorem engine_none {s a b q r o z : Int} {x : EV} (h : Hp) (R : ¬ RightP s a b q r o z) :
    WA (C0 n_engine_New [.agg (cells s a b q r o z), x] h) fun v h' => v = .nilp ∧ Fwd [] h h' := by
  refine call_W noExt_mono (f := n_engine_New) rfl rfl ?_
  simp [cells, ones]
  refine PutA_of (log_none _ R) ?_
  rintro _ H1 ⟨rfl, f1⟩
  have F1 := ((Fwd.refl [] h).new _).trans f1
  simp [Ends, F1.back]
  exact F1
theorem engine_many {s a b q r o z : Int} {n idk : Nat} (h : Hp) (hl : h.lim ≤ h.objs.length) (hn : 8 < n) (R : RightP s a b q r o z) :
    WA (C0 n_engine_New [.agg (cells s a b q r o z), .arr idk 0 1 0 n false] h) fun v h' => v = .nilp ∧ Fwd [] h h' := by
  refine call_W noExt_mono (f := n_engine_New) rfl rfl ?_
  simp [cells, ones]
  refine PutA_of (log_new _ (by simp; omega) R) ?_
  rintro _ H1 ⟨id, rfl, _, f1, _⟩
  have F1 := ((Fwd.refl [] h).new _).trans f1
  have : (8 : Int) < n := by omega
  simp [Ends, F1.back, this]
  exact F1
theorem engine_new {s a b q r o z : Int} {n idk : Nat} (h : Hp) (hl : h.lim ≤ h.objs.length) (hn : n ≤ 8) (R : RightP s a b q r o z) (hk : h.arr idk 0 = some ⟨0, 1, false, 0, List.replicate n [.full []]⟩) :
    WA (C0 n_engine_New [.agg (cells s a b q r o z), .arr idk 0 1 0 n false] h) fun v h' => (∃ id, v = .ptr id 0 0 0) ∧ Fwd [] h h' := by
  refine call_W noExt_mono (f := n_engine_New) rfl rfl ?_
  have hR := R
  unfold RightP at hR
  simp [cells, ones]
  have hl0 : (h.new (.cells ⟨0, 7, true, 0, [[eI s, eI a, eI b, eI q, eI r, eI o, eI z]]⟩)).lim ≤ (h.new (.cells ⟨0, 7, true, 0, [[eI s, eI a, eI b, eI q, eI r, eI o, eI z]]⟩)).objs.length := by simp; omega
  refine PutA_of (log_new _ hl0 R) ?_
  rintro _ H1 ⟨idl, rfl, il1, f1, rest, hr, al1⟩
  have hlk := arr_lt hk
  have ak1 := f1.arr (id := idk) (g := 0) (ar := ⟨0, 1, false, 0, List.replicate n [.full []]⟩) (by simpa [nl hlk] using hk) (by simp)
  have ac1 := f1.arr (id := h.objs.length) (g := 0) (ar := ⟨0, 7, true, 0, [[eI s, eI a, eI b, eI q, eI r, eI o, eI z]]⟩) (by simp) (by simp)
  have F1 := ((Fwd.refl [] h).new _).trans f1
  have L1 := F1.limlen hl
  have h8 : ¬ (8 : Int) < n := by omega
  simp [h8]
  refine PutA_of (merger_new L1 R al1 hr) ?_
  rintro _ H2 ⟨im, rfl, f2⟩
  have F2 := F1.trans f2
  have ac2 := f2.arr ac1 (by simp)
  have ak2 := f2.arr ak1 (by simp)
  have al2 := f2.arr al1 (by simp)
  have c2 := arr_lt ac2
  have k2 := arr_lt ak2
  have l2 := arr_lt al2
  simp [ones]
  have hF2 : h.objs.length < H2.objs.length := c2
  refine Run_loop (fun k fr hh => ∃ i, E1 h s a b q r o z h.objs.length idl H2.objs.length idk im n (List.replicate n [.full []]) k fr hh i) (n := n) ?_ ?_
  · exact ⟨0, by omega, rfl, by simp, by simp, by simp, by simp, by simp, by simp, .full [], .full [], [], [], [], [],
      ⟨by simp [ac2, _root_.Dk.nl c2, cells], ⟨rest, hr, by simp [al2, _root_.Dk.nl l2]⟩, by simp [ak2, _root_.Dk.nl k2], by simp, F2.new _, .nil, .nil, .nil, by simp, by simp, by simp, by simp, by simp, by simp, by omega, by omega, by omega, by omega⟩, rfl, rfl⟩
  rintro k fr hh ⟨i, i1, i2, g2, g5, g6, g26, g27, g28, U, T, eu, et, fu, ft, E, lu, lt⟩
  by_cases hi : (i : Int) < n
  · have hi' : i < n := by omega
    have gr : (List.replicate n [EV.full []])[i]? = some [EV.full []] := by simp [List.getElem?_replicate, hi']
    have ak := E.ak
    simp [g2, g5, g6, g26, g27, g28, hi, hi', ak, gr]
    refine PutA_of clone_nil ?_
    rintro _ H3 ⟨⟨i3, rfl⟩, f3⟩
    have E3 := E.step f3
    have ae3 := E3.ae
    have oU : U.one = true := E.ou.one.2
    have l3 := arr_lt ae3
    simp [ones, ae3, Dk.nl l3]
    have E4 := E3.step (((Fwd.refl [] H3).new (.cells ⟨0, 6, true, 0, [[.ptr H2.objs.length 0 0 0, eI i, .arr i3 0 10 0 0 true, eI 0, .nilp, eI 0]]⟩)))
    have A := E4.addU (x := .ptr H3.objs.length 0 0 0) hl (by omega)
    rw [Hp.len_new] at A
    refine PutA_of A ?_
    rintro U' H4 ⟨cU, oU', ae4, lim4, fu', E5⟩
    have oT : T.one = true := E.ot.one.2
    have l4 := arr_lt ae4
    simp [ae4, cU, oU', lim4, ones, l4]
    have A2 := E5.addT (x := .fn (.func n_engine_user_step) [.ptr H3.objs.length 0 0 0] []) hl (by omega)
    rw [Hp.len_set] at A2
    refine PutA_of A2 ?_
    rintro T' H6 ⟨cT, oT', ae6, lim6, ft', E7⟩
    have w1 : IntKind.i64.wrap ((i : Int) + 1) = (i : Int) + 1 := wrap64 (by omega) (by omega)
    simp [ae6, cT, oT', lim6, ones, w1]
    exact ⟨_, by rw [i2]; omega, i + 1, by omega, rfl, by simp, by simp, by simp, by simp, by simp, by simp, U', T', _, _, _, _, E7, by simp [lu], by simp [lt]⟩
  · have hin : i = n := by omega
    have ac := E.ac
    simp [g2, g5, g6, g26, g27, g28, hi, ac, cells]
    refine Run_loop (fun k fr hh => ∃ i, E2 h s a b q r o z h.objs.length idl H2.objs.length idk im n (List.replicate n [.full []]) k fr hh i) (n := s.toNat) ?_ ?_
    · exact ⟨0, by omega, rfl, by simp, by simp, by simp, by simp, U, .full [], T, eu, [], et, fu, [], ft, E, rfl, by simp [lt, hin]⟩
    clear E lu lt ac hi g2 g5 g6 g26 g27 g28 i1 i2 hin
    rintro k fr hh ⟨i, i1, i2, g5, g6, g62, g63, U, V, T, eu, ev, et, fu, fv, ft, E, lv, lt⟩
    by_cases hi : (i : Int) < s
    · simp [g5, g6, g62, g63, hi]
      obtain ⟨rest', hr', al⟩ := E.al
      refine PutA_of (worker_new (E.fwd.limlen hl) R (by omega) al hr') ?_
      rintro _ H3 ⟨i3, rfl, f3⟩
      have E3 := E.step f3
      have ae3 := E3.ae
      have oV : V.one = true := E.ov.one.2
      have l3 := arr_lt ae3
      simp [ones, ae3, Dk.nl l3]
      refine PutA_of (E3.addV (x := .ptr i3 0 0 0) hl (by omega)) ?_
      rintro V' H4 ⟨cV, oV', ae4, lim4, fv', E5⟩
      have oT : T.one = true := E.ot.one.2
      have l4 := arr_lt ae4
      simp [ae4, cV, oV', lim4, ones, l4]
      have A2 := E5.addT (x := .fn (.func n_worker_Worker_Step) [.ptr i3 0 0 0] []) hl (by omega)
      rw [Hp.len_set] at A2
      refine PutA_of A2 ?_
      rintro T' H6 ⟨cT, oT', ae6, lim6, ft', E7⟩
      have w1 : IntKind.i64.wrap ((i : Int) + 1) = (i : Int) + 1 := wrap64 (by omega) (by omega)
      simp [ae6, cT, oT', lim6, ones, w1]
      exact ⟨_, by rw [i2]; omega, i + 1, by omega, rfl, by simp, by simp, by simp, by simp, U, V', T', _, _, _, _, _, _, E7, by simp [lv], by simp [lt, Nat.add_assoc]⟩
    · have ae := E.ae
      have oT : T.one = true := E.ot.one.2
      have l4 := arr_lt ae
      simp [g5, g6, g62, g63, hi, ae, ones]
      refine PutA_of (E.addT (x := .fn (.func n_merger_Merger_Step) [.ptr im 0 0 0] []) hl (by omega)) ?_
      rintro T' H6 ⟨cT, oT', ae6, lim6, ft', E7⟩
      have F7 := E7.fwd
      simp [ae6, cT, oT', lim6, ones, Ends]
      have := F7.back
      simp at this
      rw [this]
      exact F7
end Dk.N
