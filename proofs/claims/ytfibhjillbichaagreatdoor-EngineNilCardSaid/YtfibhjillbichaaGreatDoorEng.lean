/- Engines: New, with its users, its workers, and its tasks. -/
import Derived.Test.YtfibhjillbichaaGreatDoorMake2
set_option linter.unusedVariables false
set_option linter.unusedSimpArgs false
set_option linter.unusedSectionVars false
namespace Dk.N
open Go Dk

theorem add_own {h0 h : Hp} {U x : EV} {els : List (List EV)} {fp : List Nat} (OW : Own h 1 false U els fp) (F : Fwd [] h0 h) (hl : h0.lim ≤ h0.objs.length) (hb : els.length ≤ 100) (fpn : ∀ x ∈ fp, h0.objs.length ≤ x) :
    WA (appendTo 1 false 8 U (.arr h.objs.length 0 1 0 1 true) (h.new (.cells ⟨0, 1, false, 0, [[x]]⟩))) fun U' H => ∃ fp', Own H 1 false U' (els ++ [[x]]) fp' ∧ Fwd fp h H ∧ Grown fp h fp' ∧ Fwd [] h0 H := by
  have L := F.limlen hl
  refine (Own.append (OW.fwd ((Fwd.refl [] _).new _) (by simp)) (ys := [[x]]) (by simp [elsOf]) (by simp; omega) (by simp; omega)).mono ?_
  rintro U' H ⟨fp', O6, f6, gr⟩
  refine ⟨fp', O6, ((Fwd.refl fp h).new _).trans' f6 fun y hy => .inl hy, fun y hy => ?_, (F.new _).trans' f6 fun y hy => .inr (fpn y hy)⟩
  rcases gr y hy with q | q
  · exact .inl q
  · simp at q
    exact .inr (by omega)
structure Eng (h0 : Hp) (s a b q r o z : Int) (idc idl ide idk im : Nat) (CK : List (List EV)) (h : Hp) (U V T : EV) (eu ev et : List (List EV)) (fu fv ft : List Nat) : Prop where
  ac : h.arr idc 0 = some ⟨0, 7, true, 0, [cells s a b q r o z]⟩
  al : ∃ rest, rest.length = 8 ∧ h.arr idl 0 = some ⟨0, 15, true, 0, [cells s a b q r o z ++ rest]⟩
  ak : h.arr idk 0 = some ⟨0, 1, false, 0, CK⟩
  ae : h.arr ide 0 = some ⟨0, 7, true, 0, [[.ptr idl 0 0 0, U, V, .ptr im 0 0 0, T, eI 0, .full []]]⟩
  fwd : Fwd [] h0 h
  ou : Own h 1 false U eu fu
  ov : Own h 1 false V ev fv
  ot : Own h 1 false T et ft
  wu : ∀ x ∈ fu, x ≠ idc ∧ x ≠ idl ∧ x ≠ idk ∧ x ≠ ide ∧ h0.objs.length ≤ x
  wv : ∀ x ∈ fv, x ≠ idc ∧ x ≠ idl ∧ x ≠ idk ∧ x ≠ ide ∧ h0.objs.length ≤ x
  wt : ∀ x ∈ ft, x ≠ idc ∧ x ≠ idl ∧ x ≠ idk ∧ x ≠ ide ∧ h0.objs.length ≤ x
  duv : ∀ x ∈ fu, x ∉ fv
  dut : ∀ x ∈ fu, x ∉ ft
  dvt : ∀ x ∈ fv, x ∉ ft
  nc : idc ≠ ide
  nl : idl ≠ ide
  nk : idk ≠ ide
  ni : h0.objs.length ≤ ide
variable {h0 h : Hp} {s a b q r o z : Int} {idc idl ide idk im : Nat} {CK : List (List EV)} {U V T : EV} {eu ev et : List (List EV)} {fu fv ft : List Nat}
theorem Eng.step {h' : Hp} (E : Eng h0 s a b q r o z idc idl ide idk im CK h U V T eu ev et fu fv ft) (f : Fwd [] h h') : Eng h0 s a b q r o z idc idl ide idk im CK h' U V T eu ev et fu fv ft :=
  ⟨f.arr E.ac (by simp), by obtain ⟨rest, e, p⟩ := E.al; exact ⟨rest, e, f.arr p (by simp)⟩, f.arr E.ak (by simp), f.arr E.ae (by simp), E.fwd.trans f, E.ou.fwd f (by simp), E.ov.fwd f (by simp), E.ot.fwd f (by simp), E.wu, E.wv, E.wt, E.duv, E.dut, E.dvt, E.nc, E.nl, E.nk, E.ni⟩
theorem Eng.addU {x : EV} (E : Eng h0 s a b q r o z idc idl ide idk im CK h U V T eu ev et fu fv ft) (hl : h0.lim ≤ h0.objs.length) (hb : eu.length ≤ 100) :
    WA (appendTo 1 false 8 U (.arr h.objs.length 0 1 0 1 true) (h.new (.cells ⟨0, 1, false, 0, [[x]]⟩))) fun U' H => U'.cells = [U'] ∧ U'.one = true ∧ H.arr ide 0 = some ⟨0, 7, true, 0, [[.ptr idl 0 0 0, U, V, .ptr im 0 0 0, T, eI 0, .full []]]⟩ ∧ H.lim ≤ ide ∧
      ∃ fu', Eng h0 s a b q r o z idc idl ide idk im CK (H.setArr ide ⟨0, 7, true, 0, [[.ptr idl 0 0 0, U', V, .ptr im 0 0 0, T, eI 0, .full []]]⟩) U' V T (eu ++ [[x]]) ev et fu' fv ft := by
  refine (add_own E.ou E.fwd hl hb fun x hx => (E.wu x hx).2.2.2.2).mono ?_
  rintro U' H ⟨fu', O6, f6, gr, F6⟩
  have fr : ∀ x ∈ fu', x ∈ fu ∨ h.objs.length ≤ x := gr
  have lc := arr_lt E.ac
  have lk := arr_lt E.ak
  have le := arr_lt E.ae
  obtain ⟨rest, hr, al⟩ := E.al
  have ll := arr_lt al
  have w' : ∀ x ∈ fu', x ≠ idc ∧ x ≠ idl ∧ x ≠ idk ∧ x ≠ ide ∧ h0.objs.length ≤ x := fun x hx => by
    rcases fr x hx with g | g
    · exact E.wu x g
    · have := E.fwd.len
      exact ⟨by omega, by omega, by omega, by omega, by omega⟩
  have ne' : ∀ x ∈ fu', x ≠ ide := fun x hx => (w' x hx).2.2.2.1
  have ae := f6.arr E.ae fun g => (E.wu _ g).2.2.2.1 rfl
  have ac := f6.arr E.ac fun g => (E.wu _ g).1 rfl
  have al' := f6.arr al fun g => (E.wu _ g).2.1 rfl
  have ak := f6.arr E.ak fun g => (E.wu _ g).2.2.1 rfl
  have le' := arr_lt ae
  have st : Fwd [ide] H (H.setArr ide ⟨0, 7, true, 0, [[.ptr idl 0 0 0, U', V, .ptr im 0 0 0, T, eI 0, .full []]]⟩) := (Fwd.refl [ide] _).set _ (.inl (by simp))
  have hlim : H.lim ≤ ide := by
    have := F6.lim
    have := E.ni
    omega
  refine ⟨O6.one.1, O6.one.2, ae, hlim, fu', ?_⟩
  exact ⟨st.arr ac (by simpa using E.nc), ⟨rest, hr, st.arr al' (by simpa using E.nl)⟩, st.arr ak (by simpa using E.nk), by simp [Hp.arr_set, le'], F6.set _ (.inr E.ni), O6.fwd st (by simpa using ne'), (E.ov.fwd f6 (fun x hx hy => E.duv x hy hx)).fwd st (by simpa using fun x hx => (E.wv x hx).2.2.2.1), (E.ot.fwd f6 (fun x hx hy => E.dut x hy hx)).fwd st (by simpa using fun x hx => (E.wt x hx).2.2.2.1), w', E.wv, E.wt, (fun x hx hy => (fr x hx).elim (fun g => E.duv x g hy) fun g => Nat.lt_irrefl _ (Nat.lt_of_lt_of_le (E.ov.lt x hy) g)), (fun x hx hy => (fr x hx).elim (fun g => E.dut x g hy) fun g => Nat.lt_irrefl _ (Nat.lt_of_lt_of_le (E.ot.lt x hy) g)), E.dvt, E.nc, E.nl, E.nk, E.ni⟩
theorem Eng.addV {x : EV} (E : Eng h0 s a b q r o z idc idl ide idk im CK h U V T eu ev et fu fv ft) (hl : h0.lim ≤ h0.objs.length) (hb : ev.length ≤ 100) :
    WA (appendTo 1 false 8 V (.arr h.objs.length 0 1 0 1 true) (h.new (.cells ⟨0, 1, false, 0, [[x]]⟩))) fun V' H => V'.cells = [V'] ∧ V'.one = true ∧ H.arr ide 0 = some ⟨0, 7, true, 0, [[.ptr idl 0 0 0, U, V, .ptr im 0 0 0, T, eI 0, .full []]]⟩ ∧ H.lim ≤ ide ∧
      ∃ fv', Eng h0 s a b q r o z idc idl ide idk im CK (H.setArr ide ⟨0, 7, true, 0, [[.ptr idl 0 0 0, U, V', .ptr im 0 0 0, T, eI 0, .full []]]⟩) U V' T eu (ev ++ [[x]]) et fu fv' ft := by
  refine (add_own E.ov E.fwd hl hb fun x hx => (E.wv x hx).2.2.2.2).mono ?_
  rintro V' H ⟨fv', O6, f6, gr, F6⟩
  have fr : ∀ x ∈ fv', x ∈ fv ∨ h.objs.length ≤ x := gr
  have lc := arr_lt E.ac
  have lk := arr_lt E.ak
  have le := arr_lt E.ae
  obtain ⟨rest, hr, al⟩ := E.al
  have ll := arr_lt al
  have w' : ∀ x ∈ fv', x ≠ idc ∧ x ≠ idl ∧ x ≠ idk ∧ x ≠ ide ∧ h0.objs.length ≤ x := fun x hx => by
    rcases fr x hx with g | g
    · exact E.wv x g
    · have := E.fwd.len
      exact ⟨by omega, by omega, by omega, by omega, by omega⟩
  have ne' : ∀ x ∈ fv', x ≠ ide := fun x hx => (w' x hx).2.2.2.1
  have ae := f6.arr E.ae fun g => (E.wv _ g).2.2.2.1 rfl
  have ac := f6.arr E.ac fun g => (E.wv _ g).1 rfl
  have al' := f6.arr al fun g => (E.wv _ g).2.1 rfl
  have ak := f6.arr E.ak fun g => (E.wv _ g).2.2.1 rfl
  have le' := arr_lt ae
  have st : Fwd [ide] H (H.setArr ide ⟨0, 7, true, 0, [[.ptr idl 0 0 0, U, V', .ptr im 0 0 0, T, eI 0, .full []]]⟩) := (Fwd.refl [ide] _).set _ (.inl (by simp))
  have hlim : H.lim ≤ ide := by
    have := F6.lim
    have := E.ni
    omega
  refine ⟨O6.one.1, O6.one.2, ae, hlim, fv', ?_⟩
  exact ⟨st.arr ac (by simpa using E.nc), ⟨rest, hr, st.arr al' (by simpa using E.nl)⟩, st.arr ak (by simpa using E.nk), by simp [Hp.arr_set, le'], F6.set _ (.inr E.ni), (E.ou.fwd f6 E.duv).fwd st (by simpa using fun x hx => (E.wu x hx).2.2.2.1), O6.fwd st (by simpa using ne'), (E.ot.fwd f6 (fun x hx hy => E.dvt x hy hx)).fwd st (by simpa using fun x hx => (E.wt x hx).2.2.2.1), E.wu, w', E.wt, (fun x hx hy => (fr x hy).elim (fun g => E.duv x hx g) fun g => Nat.lt_irrefl _ (Nat.lt_of_lt_of_le (E.ou.lt x hx) g)), E.dut, (fun x hx hy => (fr x hx).elim (fun g => E.dvt x g hy) fun g => Nat.lt_irrefl _ (Nat.lt_of_lt_of_le (E.ot.lt x hy) g)), E.nc, E.nl, E.nk, E.ni⟩
theorem Eng.addT {x : EV} (E : Eng h0 s a b q r o z idc idl ide idk im CK h U V T eu ev et fu fv ft) (hl : h0.lim ≤ h0.objs.length) (hb : et.length ≤ 100) :
    WA (appendTo 1 false 8 T (.arr h.objs.length 0 1 0 1 true) (h.new (.cells ⟨0, 1, false, 0, [[x]]⟩))) fun T' H => T'.cells = [T'] ∧ T'.one = true ∧ H.arr ide 0 = some ⟨0, 7, true, 0, [[.ptr idl 0 0 0, U, V, .ptr im 0 0 0, T, eI 0, .full []]]⟩ ∧ H.lim ≤ ide ∧
      ∃ ft', Eng h0 s a b q r o z idc idl ide idk im CK (H.setArr ide ⟨0, 7, true, 0, [[.ptr idl 0 0 0, U, V, .ptr im 0 0 0, T', eI 0, .full []]]⟩) U V T' eu ev (et ++ [[x]]) fu fv ft' := by
  refine (add_own E.ot E.fwd hl hb fun x hx => (E.wt x hx).2.2.2.2).mono ?_
  rintro T' H ⟨ft', O6, f6, gr, F6⟩
  have fr : ∀ x ∈ ft', x ∈ ft ∨ h.objs.length ≤ x := gr
  have lc := arr_lt E.ac
  have lk := arr_lt E.ak
  have le := arr_lt E.ae
  obtain ⟨rest, hr, al⟩ := E.al
  have ll := arr_lt al
  have w' : ∀ x ∈ ft', x ≠ idc ∧ x ≠ idl ∧ x ≠ idk ∧ x ≠ ide ∧ h0.objs.length ≤ x := fun x hx => by
    rcases fr x hx with g | g
    · exact E.wt x g
    · have := E.fwd.len
      exact ⟨by omega, by omega, by omega, by omega, by omega⟩
  have ne' : ∀ x ∈ ft', x ≠ ide := fun x hx => (w' x hx).2.2.2.1
  have ae := f6.arr E.ae fun g => (E.wt _ g).2.2.2.1 rfl
  have ac := f6.arr E.ac fun g => (E.wt _ g).1 rfl
  have al' := f6.arr al fun g => (E.wt _ g).2.1 rfl
  have ak := f6.arr E.ak fun g => (E.wt _ g).2.2.1 rfl
  have le' := arr_lt ae
  have st : Fwd [ide] H (H.setArr ide ⟨0, 7, true, 0, [[.ptr idl 0 0 0, U, V, .ptr im 0 0 0, T', eI 0, .full []]]⟩) := (Fwd.refl [ide] _).set _ (.inl (by simp))
  have hlim : H.lim ≤ ide := by
    have := F6.lim
    have := E.ni
    omega
  refine ⟨O6.one.1, O6.one.2, ae, hlim, ft', ?_⟩
  exact ⟨st.arr ac (by simpa using E.nc), ⟨rest, hr, st.arr al' (by simpa using E.nl)⟩, st.arr ak (by simpa using E.nk), by simp [Hp.arr_set, le'], F6.set _ (.inr E.ni), (E.ou.fwd f6 E.dut).fwd st (by simpa using fun x hx => (E.wu x hx).2.2.2.1), (E.ov.fwd f6 E.dvt).fwd st (by simpa using fun x hx => (E.wv x hx).2.2.2.1), O6.fwd st (by simpa using ne'), E.wu, E.wv, w', E.duv, (fun x hx hy => (fr x hy).elim (fun g => E.dut x hx g) fun g => Nat.lt_irrefl _ (Nat.lt_of_lt_of_le (E.ou.lt x hx) g)), (fun x hx hy => (fr x hy).elim (fun g => E.dvt x hx g) fun g => Nat.lt_irrefl _ (Nat.lt_of_lt_of_le (E.ov.lt x hx) g)), E.nc, E.nl, E.nk, E.ni⟩
end Dk.N
