/- Sharing leaves alone what is not shown. -/
import Derived.Test.YtcbigcpdbidlaaaLaw3
set_option linter.unusedVariables false
set_option linter.unusedSimpArgs false
set_option linter.unusedSectionVars false
namespace Dk.Q
open Go Dk

def SimP (P : Nat → Prop) (os os' : List Obj) : Prop := Sim os os' ∧ (∀ i, ¬ P i → os'[i]? = os[i]?) ∧ os'.length = os.length
theorem SimP.refl (P : Nat → Prop) (os : List Obj) : SimP P os os := ⟨.refl _, fun _ _ => rfl, rfl⟩
theorem SimP.trans {P : Nat → Prop} {a b c : List Obj} (h : SimP P a b) (k : SimP P b c) : SimP P a c := ⟨h.1.trans k.1, fun i q => (k.2.1 i q).trans (h.2.1 i q), k.2.2.trans h.2.2⟩
theorem shareCs_showsP {P : Nat → Prop} {lim n : Nat} (ih : ∀ {v d os}, Shows P ⟨os, lim⟩ n v d → ∃ os', shareC lim n v os = some (d, os') ∧ SimP P os os') : ∀ {el : List EV} {cs : List PD} {os : List Obj}, All2 (Shows P ⟨os, lim⟩ n) el cs → ∃ os', shareCs lim n el os = some (cs, os') ∧ SimP P os os'
  | [], [], os, _ => ⟨os, by simp [shareCs], .refl _ _⟩
  | e :: el, c :: cs, os, ⟨q, r⟩ => by
    obtain ⟨os1, h1, s1⟩ := ih q
    obtain ⟨os2, h2, s2⟩ := shareCs_showsP ih (os := os1) (r.imp fun _ _ => Shows.sim s1.1)
    exact ⟨os2, by simp only [shareCs, h1, h2], s1.trans s2⟩
  | [], _ :: _, _, q => q.elim
  | _ :: _, [], _, q => q.elim
theorem shareEls_showsP {P : Nat → Prop} {lim n : Nat} (ih : ∀ {v d os}, Shows P ⟨os, lim⟩ n v d → ∃ os', shareC lim n v os = some (d, os') ∧ SimP P os os') {ag : Bool} : ∀ {els : List (List EV)} {ps : List PD} {os : List Obj}, All2 (ElShows (Shows P ⟨os, lim⟩ n) ag) els ps → ∃ os', shareEls lim n ag els os = some (ps, os') ∧ SimP P os os'
  | [], [], os, _ => ⟨os, by simp [shareEls], .refl _ _⟩
  | e :: el, c :: cs, os, ⟨q, r⟩ => by
    cases ag with
    | true =>
      obtain ⟨xs, rfl, q⟩ := q
      obtain ⟨os1, h1, s1⟩ := shareCs_showsP ih q
      obtain ⟨os2, h2, s2⟩ := shareEls_showsP ih (os := os1) (r.imp fun _ _ => ElShows.imp fun _ _ => Shows.sim s1.1)
      exact ⟨os2, by simp only [shareEls, h1, h2, if_true], s1.trans s2⟩
    | false =>
      obtain ⟨x, rfl, q⟩ := q
      obtain ⟨os1, h1, s1⟩ := shareCs_showsP ih (el := [x]) (cs := [c]) ⟨q, trivial⟩
      obtain ⟨os2, h2, s2⟩ := shareEls_showsP ih (os := os1) (r.imp fun _ _ => ElShows.imp fun _ _ => Shows.sim s1.1)
      exact ⟨os2, by simp only [shareEls, h1, h2, Bool.false_eq_true, if_false], s1.trans s2⟩
  | [], _ :: _, _, q => q.elim
  | _ :: _, [], _, q => q.elim
theorem shareC_showsP {P : Nat → Prop} {lim : Nat} : ∀ {n : Nat} {v : EV} {d : PD} {os : List Obj}, Shows P ⟨os, lim⟩ n v d → ∃ os', shareC lim n v os = some (d, os') ∧ SimP P os os'
  | 0, v, d, os, H => by
    rcases H with rfl | ⟨xs, rfl, rfl⟩
    · exact ⟨os, by simp [shareC], .refl _ _⟩
    · exact ⟨os, by simp [shareC], .refl _ _⟩
  | n + 1, v, d, os, H => by
    rcases H with (rfl | ⟨xs, rfl, rfl⟩) | ⟨id, g, off, len, f, a, ps, rfl, e1, e2, e3, e4, rfl, e6⟩
    · exact ⟨os, by simp [shareC], .refl _ _⟩
    · exact ⟨os, by simp [shareC], .refl _ _⟩
    · have k : os[id]? = some (.cells a) ∧ a.gen = g := by
        unfold Hp.arr at e1
        split at e1
        · rename_i a' q
          split at e1
          · rename_i hg
            cases e1
            exact ⟨q, hg⟩
          · cases e1
        · cases e1
      obtain ⟨k1, k2⟩ := k
      obtain ⟨os1, h1, s1⟩ := shareEls_showsP shareC_showsP e6
      obtain ⟨z, k3⟩ := s1.1 _ _ k1
      refine ⟨_, by simp only [shareC, k1]; rw [if_pos ⟨k2, trivial, e2, e3⟩, h1]; simp only [k3]; rfl, s1.trans ⟨fun i x hx => ?_, fun i hi => ?_, by simp⟩⟩
      · by_cases hi : id = i
        · subst hi
          have hlt : id < os1.length := (List.getElem?_eq_some_iff.1 hx).1
          rw [k3] at hx
          cases hx
          exact ⟨_, by rw [List.getElem?_set_self hlt]⟩
        · exact ⟨x.frz, by rw [List.getElem?_set_ne hi]; exact hx⟩
      · rw [List.getElem?_set_ne fun q => hi (by rw [← q]; exact e4)]
theorem shareV_showsP {P : Nat → Prop} {lim : Nat} {v : EV} {ps : List PD} {os : List Obj} (H : Shows P ⟨os, lim⟩ 8 v (.list ps)) (hf : ∀ id g sz off len, v ≠ .arr id g sz off len true) : ∃ os', shareV lim v os = some (.p (.list ps), os') ∧ SimP P os os' := by
  obtain ⟨os', h, s⟩ := shareC_showsP H
  have H' := H
  unfold Shows at H'
  rcases H' with (rfl | ⟨xs, rfl, e⟩) | ⟨id, g, off, len, f, a, qs, rfl, -⟩
  · exact ⟨os, by simp [shareV], .refl _ _⟩
  · cases e
    exact ⟨os, by simp [shareV], .refl _ _⟩
  · cases f with
    | true => exact absurd rfl (hf _ _ _ _ _)
    | false => exact ⟨os', by simp only [shareV, h, Option.map_some, fullV], s⟩

theorem SimP.fwd {P : Nat → Prop} {h : Hp} {os' : List Obj} (s : SimP P h.objs os') : ∃ ids : List Nat, (∀ y ∈ ids, P y) ∧ Fwd ids h ⟨os', h.lim⟩ := by
  classical
  refine ⟨(List.range h.objs.length).filter fun y => decide (P y), fun y hy => by simpa using (List.mem_filter.1 hy).2, rfl, by rw [s.2.2]; exact Nat.le_refl _, fun i hi hn => s.2.1 i fun q => hn (List.mem_filter.2 ⟨List.mem_range.2 hi, by simpa using q⟩)⟩

theorem own_shows {P : Nat → Prop} {h : Hp} {n sz : Nat} {ag : Bool} {v : EV} {els : List (List EV)} {fp : List Nat} {ps : List PD} (O : Own h sz ag v els fp) (hP : ∀ y ∈ fp, P y) (hA : All2 (ElShows (Shows P h n) ag) els ps) : Shows P h (n + 1) v (.list ps) := by
  cases O with
  | nil => cases ps with
    | nil => exact .full (n + 1)
    | cons _ _ => exact hA.elim
  | arr h1 h2 h3 h4 => exact .inr ⟨_, _, _, _, _, _, ps, rfl, h1, h2, h4, hP _ (by simp), rfl, hA⟩
/-- Do, with outs that are rows of rows yet. -/
theorem does_at {cf : Conf} {s : Int} {c : Cmd} {outs : List OutV} {id idm : Nat} {ps : List (Nat × List Nat)} {ls : List (Int × Line)} {h : Hp} (H : DeskAt h id idm ps ⟨cf, ls⟩) (hl : h.lim ≤ h.objs.length) (hf : Fit cf ls) (hs : ∀ y ∈ ls, y.1 ≠ s) (ho : cf.o ≤ 4096) (hk : c.kind = 1 → OutsOK outs)
    {P : Nat → Prop} {o : EV} (hsh : Shows P h 8 o (.list (outs.map OutV.pd))) (hfull : ∀ id g sz off len, o ≠ .arr id g sz off len true) (hP : ∀ y ∈ own id idm ps, ¬ P y) :
    WA (C0 n_qDo [.ptr id 0 0 0, eI s, .agg c.cells, o] h) fun v h' => ∃ h1 ids, (∀ y ∈ ids, P y) ∧ Fwd ids h h1 ∧ h1.objs.length = h.objs.length ∧ Done cf s c outs id idm ps ls h1 v h' := by
  obtain ⟨os', e, S⟩ := shareV_showsP (os := h.objs) (lim := h.lim) hsh hfull
  obtain ⟨ids, i1, F⟩ := S.fwd
  refine do_call (as := doArgs id s c (.p (.list (outs.map OutV.pd)))) (os := os') (by simp [shareVs, shareV, doArgs, Cmd.cells, e]) ?_
  refine WA.mono (does0 (H.fwd F fun y hy q => hP y q (i1 y hy)) (by rw [F.lim]; simpa [S.2.2] using hl) hf hs ho hk) fun v h' D => ⟨⟨os', h.lim⟩, ids, i1, F, S.2.2, D⟩
end Dk.Q
