/- What a value shows: the plain data that it is, once shared; sharing leaves alone what is not shown. -/
import Derived.Test.YtalodgghnpnnkaaDoorP
set_option linter.unusedVariables false
set_option linter.unusedSimpArgs false
set_option linter.unusedSectionVars false
namespace Dk.M
open Go Dk
def All2 {A B : Type} (R : A → B → Prop) : List A → List B → Prop
 | [], [] => True
 | a :: l, b :: m => R a b ∧ All2 R l m
 | _, _ => False
theorem All2.imp {A B : Type} {R S : A → B → Prop} (h : ∀ a b, R a b → S a b) : ∀ {l : List A} {m : List B}, All2 R l m → All2 S l m
 | [], [], _ => trivial
 | _ :: _, _ :: _, ⟨q, r⟩ => ⟨h _ _ q, r.imp h⟩
 | [], _ :: _, q => q.elim
 | _ :: _, [], q => q.elim
theorem All2.append {A B : Type} {R : A → B → Prop} : ∀ {l : List A} {m : List B} {l' : List A} {m' : List B}, All2 R l m → All2 R l' m' → All2 R (l ++ l') (m ++ m')
 | [], [], _, _, _, k => k
 | _ :: _, _ :: _, _, _, ⟨q, r⟩, k => ⟨q, r.append k⟩
 | [], _ :: _, _, _, q, _ => q.elim
 | _ :: _, [], _, _, q, _ => q.elim
theorem All2.len {A B : Type} {R : A → B → Prop} : ∀ {l : List A} {m : List B}, All2 R l m → l.length = m.length
 | [], [], _ => rfl
 | _ :: _, _ :: _, ⟨_, r⟩ => by simp [r.len]
 | [], _ :: _, q => q.elim
 | _ :: _, [], q => q.elim
theorem All2.get {A B : Type} {R : A → B → Prop} : ∀ {l : List A} {m : List B} {i : Nat} {b : B}, All2 R l m → m[i]? = some b → ∃ a, l[i]? = some a ∧ R a b
 | [], [], _, _, _, h => by simp at h
 | a :: _, _ :: _, 0, _, ⟨q, _⟩, h => ⟨a, rfl, by simp at h; exact h ▸ q⟩
 | _ :: l, _ :: m, i + 1, _, ⟨_, r⟩, h => r.get (by simpa using h)
 | [], _ :: _, _, _, q, _ => q.elim
 | _ :: _, [], _, _, q, _ => q.elim
theorem All2.take {A B : Type} {R : A → B → Prop} : ∀ {l : List A} {m : List B} (n : Nat), All2 R l m → All2 R (l.take n) (m.take n)
 | _, _, 0, _ => by simp [All2]
 | [], [], _ + 1, _ => by simp [All2]
 | _ :: _, _ :: _, n + 1, ⟨q, r⟩ => ⟨q, r.take n⟩
 | [], _ :: _, _, q => q.elim
 | _ :: _, [], _, q => q.elim
theorem All2.drop {A B : Type} {R : A → B → Prop} : ∀ {l : List A} {m : List B} (n : Nat), All2 R l m → All2 R (l.drop n) (m.drop n)
 | l, m, 0, h => by simpa using h
 | [], [], _ + 1, _ => by simp [All2]
 | _ :: _, _ :: _, n + 1, ⟨_, r⟩ => by simpa using r.drop n
 | [], _ :: _, _, q => q.elim
 | _ :: _, [], _, q => q.elim
def ElShows (S : EV → PD → Prop) : Bool → List EV → PD → Prop
 | true, el, x => ∃ cs, x = .agg cs ∧ All2 S el cs
 | false, el, x => ∃ e, el = [e] ∧ S e x
def Shows (P : Nat → Prop) (h : Hp) : Nat → EV → PD → Prop
 | 0, v, d => v = .p d ∨ ∃ xs, v = .full xs ∧ d = .list xs
 | n + 1, v, d => (v = .p d ∨ ∃ xs, v = .full xs ∧ d = .list xs) ∨ ∃ id g off len f a ps, v = .arr id g a.sz off len f ∧ h.arr id g = some a ∧ off + len ≤ a.els.length ∧ h.lim ≤ id ∧ P id ∧ d = .list ps ∧ All2 (ElShows (Shows P h n) a.ag) ((a.els.drop off).take len) ps
theorem ElShows.imp {S T : EV → PD → Prop} (h : ∀ v d, S v d → T v d) {ag : Bool} {el : List EV} {x : PD} (H : ElShows S ag el x) : ElShows T ag el x := by
 cases ag with
 | true => obtain ⟨cs, e, q⟩ := H; exact ⟨cs, e, q.imp h⟩
 | false => obtain ⟨e, q, r⟩ := H; exact ⟨e, q, h _ _ r⟩
theorem Shows.plain {P : Nat → Prop} {h : Hp} {d : PD} : ∀ n, Shows P h n (.p d) d
 | 0 => .inl rfl
 | _ + 1 => .inl (.inl rfl)
theorem Shows.full {P : Nat → Prop} {h : Hp} {xs : List PD} : ∀ n, Shows P h n (.full xs) (.list xs)
 | 0 => .inr ⟨xs, rfl, rfl⟩
 | _ + 1 => .inl (.inr ⟨xs, rfl, rfl⟩)
theorem Shows.mono {P Q : Nat → Prop} {h : Hp} (hp : ∀ y, P y → Q y) : ∀ {n : Nat} {v : EV} {d : PD}, Shows P h n v d → Shows Q h n v d
 | 0, _, _, H => H
 | n + 1, _, _, H => H.imp_right fun ⟨id, g, off, len, f, a, ps, e, e1, e2, e3, e4, e5, e6⟩ => ⟨id, g, off, len, f, a, ps, e, e1, e2, e3, hp _ e4, e5, e6.imp fun _ _ => ElShows.imp fun _ _ => Shows.mono hp⟩
theorem Shows.fwd {P : Nat → Prop} {h h' : Hp} {ids : List Nat} (f : Fwd ids h h') (hi : ∀ y ∈ ids, ¬ P y) : ∀ {n : Nat} {v : EV} {d : PD}, Shows P h n v d → Shows P h' n v d
 | 0, _, _, H => H
 | n + 1, _, _, H => H.imp_right fun ⟨id, g, off, len, ff, a, ps, e, e1, e2, e3, e4, e5, e6⟩ => ⟨id, g, off, len, ff, a, ps, e, f.arr e1 (fun q => hi _ q e4), e2, by rw [f.lim]; exact e3, e4, e5, e6.imp fun _ _ => ElShows.imp fun _ _ => Shows.fwd f hi⟩
def Sim (os os' : List Obj) : Prop := ∀ (i : Nat) (a : Arr), os[i]? = some (.cells a) → ∃ z, os'[i]? = some (.cells { a with frz := z })
theorem Sim.refl (os : List Obj) : Sim os os := fun i a h => ⟨a.frz, h⟩
theorem Sim.trans {a b c : List Obj} (h : Sim a b) (k : Sim b c) : Sim a c := fun i x q => by
 obtain ⟨z, q⟩ := h i x q
 obtain ⟨z', q⟩ := k i _ q
 exact ⟨z', q⟩
theorem Shows.sim {P : Nat → Prop} {os os' : List Obj} {lim : Nat} (f : Sim os os') : ∀ {n : Nat} {v : EV} {d : PD}, Shows P ⟨os, lim⟩ n v d → Shows P ⟨os', lim⟩ n v d
 | 0, _, _, H => H
 | n + 1, _, _, H => H.imp_right fun ⟨id, g, off, len, ff, a, ps, e, e1, e2, e3, e4, e5, e6⟩ => by
  have k : ∃ a' : Arr, os[id]? = some (.cells a') ∧ a' = a ∧ a.gen = g := by
   unfold Hp.arr at e1
   split at e1
   · rename_i a' q
     split at e1
     · rename_i hg
       cases e1
       exact ⟨_, q, rfl, hg⟩
     · cases e1
   · cases e1
  obtain ⟨a', k1, rfl, k2⟩ := k
  obtain ⟨z, k3⟩ := f _ _ k1
  exact ⟨id, g, off, len, ff, { a' with frz := z }, ps, e, (by unfold Hp.arr; simp only [k3]; rw [if_pos k2]), e2, e3, e4, e5, e6.imp fun _ _ => ElShows.imp fun _ _ => Shows.sim f⟩
def SimP (P : Nat → Prop) (os os' : List Obj) : Prop := Sim os os' ∧ (∀ i, ¬ P i → os'[i]? = os[i]?) ∧ os'.length = os.length
theorem SimP.refl (P : Nat → Prop) (os : List Obj) : SimP P os os := ⟨.refl _, fun _ _ => rfl, rfl⟩
theorem SimP.trans {P : Nat → Prop} {a b c : List Obj} (h : SimP P a b) (k : SimP P b c) : SimP P a c := ⟨h.1.trans k.1, fun i q => (k.2.1 i q).trans (h.2.1 i q), k.2.2.trans h.2.2⟩
theorem shareCs_showsP {P : Nat → Prop} {lim n : Nat} (ih : ∀ {v d os}, Shows P ⟨os, lim⟩ n v d → ∃ os', shareC lim n v os = some (d, os') ∧ SimP P os os') : ∀ {el : List EV} {cs : List PD} {os : List Obj}, All2 (Shows P ⟨os, lim⟩ n) el cs → ∃ os', shareCs lim n el os = some (cs, os') ∧ SimP P os os'
 | [], [], os, _ => ⟨os, by simp [shareCs], .refl _ _⟩
 | e :: el, c :: cs, os, ⟨q, r⟩ => by
  obtain ⟨os1, h1, s1⟩ := ih q
  obtain ⟨os2, h2, s2⟩ := shareCs_showsP ih (os := os1) (r.imp fun _ _ => Shows.sim s1.1)
  exact ⟨os2, by simp only [shareCs, h1, h2], s1.trans s2⟩
 | [], _ :: _, _, q => q.elim
 | _ :: _, [], _, q => q.elim
theorem shareEls_showsP {P : Nat → Prop} {lim n : Nat} (ih : ∀ {v d os}, Shows P ⟨os, lim⟩ n v d → ∃ os', shareC lim n v os = some (d, os') ∧ SimP P os os') {ag : Bool} : ∀ {els : List (List EV)} {ps : List PD} {os : List Obj}, All2 (ElShows (Shows P ⟨os, lim⟩ n) ag) els ps → ∃ os', shareEls lim n ag els os = some (ps, os') ∧ SimP P os os'
 | [], [], os, _ => ⟨os, by simp [shareEls], .refl _ _⟩
 | e :: el, c :: cs, os, ⟨q, r⟩ => by
  cases ag with
  | true =>
   obtain ⟨xs, rfl, q⟩ := q
   obtain ⟨os1, h1, s1⟩ := shareCs_showsP ih q
   obtain ⟨os2, h2, s2⟩ := shareEls_showsP ih (os := os1) (r.imp fun _ _ => ElShows.imp fun _ _ => Shows.sim s1.1)
   exact ⟨os2, by simp only [shareEls, h1, h2, if_true], s1.trans s2⟩
  | false =>
   obtain ⟨x, rfl, q⟩ := q
   obtain ⟨os1, h1, s1⟩ := shareCs_showsP ih (el := [x]) (cs := [c]) ⟨q, trivial⟩
   obtain ⟨os2, h2, s2⟩ := shareEls_showsP ih (os := os1) (r.imp fun _ _ => ElShows.imp fun _ _ => Shows.sim s1.1)
   exact ⟨os2, by simp only [shareEls, h1, h2, Bool.false_eq_true, if_false], s1.trans s2⟩
 | [], _ :: _, _, q => q.elim
 | _ :: _, [], _, q => q.elim
theorem shareC_showsP {P : Nat → Prop} {lim : Nat} : ∀ {n : Nat} {v : EV} {d : PD} {os : List Obj}, Shows P ⟨os, lim⟩ n v d → ∃ os', shareC lim n v os = some (d, os') ∧ SimP P os os'
 | 0, v, d, os, H => by
  rcases H with rfl | ⟨xs, rfl, rfl⟩
  · exact ⟨os, by simp [shareC], .refl _ _⟩
  · exact ⟨os, by simp [shareC], .refl _ _⟩
 | n + 1, v, d, os, H => by
  rcases H with (rfl | ⟨xs, rfl, rfl⟩) | ⟨id, g, off, len, f, a, ps, rfl, e1, e2, e3, e4, rfl, e6⟩
  · exact ⟨os, by simp [shareC], .refl _ _⟩
  · exact ⟨os, by simp [shareC], .refl _ _⟩
  · have k : os[id]? = some (.cells a) ∧ a.gen = g := by
     unfold Hp.arr at e1
     split at e1
     · rename_i a' q
       split at e1
       · rename_i hg
         cases e1
         exact ⟨q, hg⟩
       · cases e1
     · cases e1
    obtain ⟨k1, k2⟩ := k
    obtain ⟨os1, h1, s1⟩ := shareEls_showsP shareC_showsP e6
    obtain ⟨z, k3⟩ := s1.1 _ _ k1
    refine ⟨_, by simp only [shareC, k1]; rw [if_pos ⟨k2, trivial, e2, e3⟩, h1]; simp only [k3]; rfl, s1.trans ⟨fun i x hx => ?_, fun i hi => ?_, by simp⟩⟩
    · by_cases hi : id = i
      · subst hi
        have hlt : id < os1.length := (List.getElem?_eq_some_iff.1 hx).1
        rw [k3] at hx
        cases hx
        exact ⟨_, by rw [List.getElem?_set_self hlt]⟩
      · exact ⟨x.frz, by rw [List.getElem?_set_ne hi]; exact hx⟩
    · rw [List.getElem?_set_ne fun q => hi (by rw [← q]; exact e4)]
theorem SimP.fwd {P : Nat → Prop} {h : Hp} {os' : List Obj} (s : SimP P h.objs os') : ∃ ids : List Nat, (∀ y ∈ ids, P y) ∧ Fwd ids h ⟨os', h.lim⟩ := by
 classical
 refine ⟨(List.range h.objs.length).filter fun y => decide (P y), fun y hy => by simpa using (List.mem_filter.1 hy).2, rfl, by rw [s.2.2]; exact Nat.le_refl _, fun i hi hn => s.2.1 i fun q => hn (List.mem_filter.2 ⟨List.mem_range.2 hi, by simpa using q⟩)⟩
theorem own_shows {P : Nat → Prop} {h : Hp} {n sz : Nat} {ag : Bool} {v : EV} {els : List (List EV)} {fp : List Nat} {ps : List PD} (O : Own h sz ag v els fp) (hP : ∀ y ∈ fp, P y) (hA : All2 (ElShows (Shows P h n) ag) els ps) : Shows P h (n + 1) v (.list ps) := by
 cases O with
 | nil => cases ps with
  | nil => exact .full (n + 1)
  | cons _ _ => exact hA.elim
 | arr h1 h2 h3 h4 => exact .inr ⟨_, _, _, _, _, _, ps, rfl, h1, h2, h4, hP _ (by simp), rfl, hA⟩
theorem share_any {P : Nat → Prop} {lim : Nat} {v : EV} {ps : List PD} {os : List Obj} (H : Shows P ⟨os, lim⟩ 8 v (.list ps)) : ∃ w os', shareV lim v os = some (w, os') ∧ (w = .p (.list ps) ∨ w = .full ps) ∧ SimP P os os' := by
 obtain ⟨os', h, s⟩ := shareC_showsP H
 have H' := H
 unfold Shows at H'
 rcases H' with (rfl | ⟨xs, rfl, e⟩) | ⟨id, g, off, len, f, a, qs, rfl, -⟩
 · exact ⟨_, os, by simp [shareV], .inl rfl, .refl _ _⟩
 · cases e
   exact ⟨_, os, by simp [shareV], .inl rfl, .refl _ _⟩
 · cases f with
   | true => exact ⟨_, os', by simp only [shareV, h, Option.map_some, fullV], .inr rfl, s⟩
   | false => exact ⟨_, os', by simp only [shareV, h, Option.map_some, fullV], .inl rfl, s⟩
end Dk.M
