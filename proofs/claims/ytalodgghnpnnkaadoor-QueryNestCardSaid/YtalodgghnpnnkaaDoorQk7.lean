/- D, seventh part: D in a memory that has more in it: calls do not mind. No condition. -/
import Derived.Test.YtalodgghnpnnkaaDoorQk5
set_option linter.unusedVariables false
set_option linter.unusedSimpArgs false
set_option linter.unusedSectionVars false
namespace Dk
open Go
mutual
def EV.ren (ρ : Nat → Nat) : EV → EV
 | .arr id g sz off len f => .arr (ρ id) g sz off len f
 | .ptr id g i o => .ptr (ρ id) g i o
 | .sub id g i o sz len => .sub (ρ id) g i o sz len
 | .map id => .map (ρ id)
 | .yld id => .yld (ρ id)
 | .bld id => .bld (ρ id)
 | .fn f a b => .fn f (EV.rens ρ a) (EV.rens ρ b)
 | .iface t v => .iface t (EV.ren ρ v)
 | .agg cs => .agg (EV.rens ρ cs)
 | .tup cs => .tup (EV.rens ρ cs)
 | .p x => .p x
 | .full x => .full x
 | .nilp => .nilp
 | .cp a b => .cp a b
 | .nilf => .nilf
 | .nilmap => .nilmap
 | .nili => .nili
 | .junk => .junk
def EV.rens (ρ : Nat → Nat) : List EV → List EV
 | [] => []
 | a :: r => EV.ren ρ a :: EV.rens ρ r
end
theorem rens_map (ρ : Nat → Nat) : ∀ l, EV.rens ρ l = l.map (EV.ren ρ)
 | [] => by simp [EV.rens]
 | a :: r => by simp [EV.rens, rens_map ρ r]
mutual
theorem ren_under (ρ : Nat → Nat) : ∀ e : EV, EV.under 0 e = true → e.ren ρ = e
 | .arr .., h => by simp [EV.under] at h
 | .ptr .., h => by simp [EV.under] at h
 | .sub .., h => by simp [EV.under] at h
 | .map _, h => by simp [EV.under] at h
 | .yld _, h => by simp [EV.under] at h
 | .fn f a b, h => by
  simp only [EV.under, Bool.and_eq_true] at h
  simp only [EV.ren, rens_under ρ a h.1, rens_under ρ b h.2]
 | .iface t v, h => by
  simp only [EV.under] at h
  simp only [EV.ren, ren_under ρ v h]
 | .agg cs, h => by
  simp only [EV.under] at h
  simp only [EV.ren, rens_under ρ cs h]
 | .tup cs, h => by
  simp only [EV.under] at h
  simp only [EV.ren, rens_under ρ cs h]
 | .p x, h => by simp [EV.ren]
 | .full x, h => by simp [EV.ren]
 | .nilp, h => by simp [EV.ren]
 | .cp a b, h => by simp [EV.ren]
 | .nilf, h => by simp [EV.ren]
 | .nilmap, h => by simp [EV.ren]
 | .nili, h => by simp [EV.ren]
 | .junk, h => by simp [EV.ren]
theorem rens_under (ρ : Nat → Nat) : ∀ l : List EV, EV.unders 0 l = true → EV.rens ρ l = l
 | [], _ => by simp [EV.rens]
 | a :: r, h => by
  simp only [EV.unders, Bool.and_eq_true] at h
  simp only [EV.rens, ren_under ρ a h.1, rens_under ρ r h.2]
end
variable {ρ : Nat → Nat}
theorem cells_ren (v : EV) : (v.ren ρ).cells = v.cells.map (EV.ren ρ) := by
 cases v <;> simp [EV.cells, EV.ren, rens_map]
theorem one_ren (v : EV) : (v.ren ρ).one = v.one := by cases v <;> simp [EV.one, EV.ren]
theorem ones_ren (l : List EV) : ones (l.map (EV.ren ρ)) = ones l := by
 unfold ones
 rw [List.all_map]
 congr 1
 funext v
 exact one_ren v
theorem mk_ren {ag : Bool} {cs : List EV} {v : EV} (h : mk ag cs = some v) : mk ag (cs.map (EV.ren ρ)) = some (v.ren ρ) := by
 unfold mk at *
 cases ag with
 | true => simp only [if_true] at *; cases h; simp [EV.ren, rens_map]
 | false =>
  simp only [Bool.false_eq_true, if_false] at *
  split at h
  · cases h; simp
  · cases h
def Fr.ren (ρ : Nat → Nat) (fr : Fr) : Fr := fr.map fun p => (p.1, p.2.ren ρ)
theorem get_ren (fr : Fr) (k : Nat) : (fr.ren ρ).get k = (fr.get k).ren ρ := by
 induction fr with
 | nil => simp [Fr.ren, Fr.get, EV.ren]
 | cons p r ih =>
  obtain ⟨j, v⟩ := p
  simp only [Fr.ren, List.map_cons, Fr.get] at ih ⊢
  split
  · rfl
  · exact ih
theorem put_ren (fr : Fr) (d : Option Nat) (v : EV) : (fr.ren ρ).put d (v.ren ρ) = (fr.put d v).ren ρ := by
 cases d <;> simp [Fr.put, Fr.ren]
def X.cl : X → Bool
 | .t _ => true
 | .v e => EV.under 0 e
theorem ev_ren {x : X} (h : x.cl = true) (fr : Fr) : x.ev (fr.ren ρ) = (x.ev fr).ren ρ := by
 cases x with
 | t n => exact get_ren fr n
 | v e => exact (ren_under ρ e h).symm
def xcls (l : List X) : Bool := l.all X.cl
theorem evs_ren {l : List X} (h : xcls l = true) (fr : Fr) : evs (fr.ren ρ) l = (evs fr l).map (EV.ren ρ) := by
 unfold evs
 rw [List.map_map]
 refine List.map_congr_left fun x hx => ?_
 exact ev_ren (List.all_eq_true.1 h x hx) fr
def xclo : Option X → Bool
 | none => true
 | some x => x.cl
theorem evo_ren {x : Option X} (h : xclo x = true) (fr : Fr) : x.map (X.ev (fr.ren ρ)) = (x.map (X.ev fr)).map (EV.ren ρ) := by
 cases x with
 | none => rfl
 | some x => simp [ev_ren (ρ := ρ) (show x.cl = true from h)]
def DOp.cl : DOp → Bool
 | .mv x => x.cl
 | .nils .. => true
 | .pick c a b => c.cl && a.cl && b.cl
 | .nz x => x.cl
 | .new _ zs => EV.unders 0 zs
 | .box _ _ x => x.cl
 | .build zs ps => EV.unders 0 zs && ps.all fun p => p.2.2.cl
 | .lit _ _ els ps => els.all (EV.unders 0) && ps.all fun p => p.2.cl
 | .ld _ _ x => x.cl
 | .st _ x v => x.cl && v.cl
 | .bin _ _ x y => x.cl && y.cl
 | .isnil _ x => x.cl
 | .un _ x => x.cl
 | .conv _ x => x.cl
 | .mkf _ a b => xcls a && xcls b
 | .mkmap => true
 | .mks _ _ _ z l c => EV.unders 0 z && l.cl && c.cl
 | .slc _ x lo hi mx => x.cl && xclo lo && xclo hi && xclo mx
 | .sla _ _ x lo hi => x.cl && xclo lo && xclo hi
 | .sls x lo hi => x.cl && xclo lo && xclo hi
 | .fld _ x => x.cl
 | .fget _ _ _ x => x.cl
 | .ixa _ x i => x.cl && i.cl
 | .ixp _ _ x i => x.cl && i.cl
 | .ixs x i => x.cl && i.cl
 | .ixg _ _ _ x i => x.cl && i.cl
 | .look _ z _ m k => EV.under 0 z && m.cl && k.cl
 | .upd _ m k v => m.cl && k.cl && v.cl
 | .del _ m k => m.cl && k.cl
 | .ext x _ => x.cl
 | .len _ x => x.cl
 | .cap x => x.cl
 | .app _ _ _ s x => s.cl && x.cl
 | .appz _ _ _ z s n => EV.unders 0 z && s.cl && n.cl
 | .mnx _ x y => x.cl && y.cl
 | .call _ args => xcls args
 | .callv x args => x.cl && xcls args
 | .mki _ x => x.cl
 | .asr _ z x => EV.under 0 z && x.cl
 | .byts x => x.cl
 | .strb x => x.cl
 | .nbld => true
 | .bwr x s => x.cl && s.cl
 | .bstr x => x.cl
 | .fnb x y => x.cl && y.cl
 | .fnd _ x y => x.cl && y.cl
 | .may x args => x.cl && xcls args
 | .mnth m i => m.cl && i.cl
def Step.cl (s : Step) : Bool := s.op.cl && s.chk.all fun c => c.2.1.cl
def DC.cl : DC → Bool
 | .skip => true
 | .ops l => l.all Step.cl
 | .seq a b => a.cl && b.cl
 | .cond x a b => x.cl && a.cl && b.cl
 | .block _ c => c.cl
 | .loop _ c => c.cl
 | .exit _ => true
 | .ret => true
 | .range _ _ x a b => x.cl && a.cl && b.cl
def rows (ρ : Nat → Nat) (els : List (List EV)) : List (List EV) := els.map (List.map (EV.ren ρ))
def Arr.ren (ρ : Nat → Nat) (a : Arr) : Arr := ⟨a.gen, a.sz, a.ag, a.frz, rows ρ a.els⟩
def ents' (ρ : Nat → Nat) (es : List (PD × EV)) : List (PD × EV) := es.map fun p => (p.1, p.2.ren ρ)
def LoopO.ren (ρ : Nat → Nat) (l : LoopO) : LoopO := ⟨l.ps, l.a, l.b, l.fr.ren ρ, l.st⟩
def Obj.ren (ρ : Nat → Nat) : Dk.Obj → Dk.Obj
 | .cells a => .cells (a.ren ρ)
 | .map es => .map (ents' ρ es)
 | .loop l => .loop (l.ren ρ)
 | .bld s => .bld s
structure Sh (ρ : Nat → Nat) (h1 h2 : Hp) : Prop where
 get : ∀ (i : Nat) (o : Dk.Obj), h1.objs[i]? = some o → h2.objs[ρ i]? = some (o.ren ρ)
 up : ∀ k, ρ (h1.objs.length + k) = h2.objs.length + k
 lim : ∀ i, h1.lim ≤ i → h2.lim ≤ ρ i
 inj : ∀ i j, ρ i = ρ j → i = j
 code : ∀ (i : Nat) (l : LoopO), h1.objs[i]? = some (Dk.Obj.loop l) → l.a.cl = true ∧ l.b.cl = true
variable {h1 h2 : Hp}
theorem Sh.arr (S : Sh ρ h1 h2) {id g : Nat} {a : Arr} (h : h1.arr id g = some a) : h2.arr (ρ id) g = some (a.ren ρ) := by
 unfold Hp.arr at *
 split at h
 · rename_i x hx
   rw [S.get _ _ hx]
   simp only [Obj.ren, Arr.ren]
   split at h
   · rename_i hg
     cases h
     rw [if_pos hg]
   · cases h
 · cases h
theorem Sh.mapOf (S : Sh ρ h1 h2) {id : Nat} {es : List (PD × EV)} (h : h1.mapOf id = some es) : h2.mapOf (ρ id) = some (ents' ρ es) := by
 unfold Hp.mapOf at *
 split at h
 · rename_i x hx
   cases h
   rw [S.get _ _ hx]
   rfl
 · cases h
theorem Sh.set (S : Sh ρ h1 h2) {i : Nat} {o : Dk.Obj} (ho : ∀ l, o = Dk.Obj.loop l → l.a.cl = true ∧ l.b.cl = true) : Sh ρ { h1 with objs := h1.objs.set i o } { h2 with objs := h2.objs.set (ρ i) (o.ren ρ) } := by
 refine ⟨fun j x hx => ?_, by simpa using S.up, S.lim, S.inj, fun j l hl => ?_⟩
 · simp only [List.getElem?_set] at hx ⊢
   by_cases e : i = j
   · subst e
     simp only [if_true] at hx ⊢
     split at hx
     · rename_i hlt
       cases hx
       have := S.get i _ (List.getElem?_eq_getElem hlt)
       rw [if_pos (List.getElem?_eq_some_iff.1 this).1]
     · cases hx
   · rw [if_neg e] at hx
     rw [if_neg fun q => e (S.inj _ _ q)]
     exact S.get j x hx
 · simp only [List.getElem?_set] at hl
   by_cases e : i = j
   · subst e
     simp only [if_true] at hl
     split at hl
     · cases hl; exact ho l rfl
     · cases hl
   · rw [if_neg e] at hl
     exact S.code j l hl
theorem Sh.new (S : Sh ρ h1 h2) {o : Dk.Obj} (ho : ∀ l, o = Dk.Obj.loop l → l.a.cl = true ∧ l.b.cl = true) : Sh ρ (h1.new o) (h2.new (o.ren ρ)) := by
 refine ⟨fun j x hx => ?_, fun k => ?_, S.lim, S.inj, fun j l hl => ?_⟩
 · simp only [Hp.new] at hx ⊢
   by_cases e : j < h1.objs.length
   · rw [List.getElem?_append_left e] at hx
     have := S.get j x hx
     rw [List.getElem?_append_left (List.getElem?_eq_some_iff.1 this).1]
     exact this
   · rw [List.getElem?_append_right (by omega)] at hx
     have hj : j = h1.objs.length := by
      have := (List.getElem?_eq_some_iff.1 hx).1
      simp at this
      omega
     subst hj
     simp at hx
     subst hx
     have := S.up 0
     simp only [Nat.add_zero] at this
     rw [this]
     simp
 · have := S.up (k + 1)
   simp only [Hp.new, List.length_append, List.length_singleton]
   rw [show h1.objs.length + 1 + k = h1.objs.length + (k + 1) by omega, this]
   omega
 · simp only [Hp.new] at hl
   by_cases e : j < h1.objs.length
   · rw [List.getElem?_append_left e] at hl
     exact S.code j l hl
   · rw [List.getElem?_append_right (by omega)] at hl
     have hj : j - h1.objs.length = 0 := by
      have := (List.getElem?_eq_some_iff.1 hl).1
      simp at this
      omega
     rw [hj] at hl
     simp at hl
     exact ho l hl
theorem Sh.last (S : Sh ρ h1 h2) : ρ h1.objs.length = h2.objs.length := by simpa using S.up 0
end Dk
namespace Dk
open Go
variable {ρ : Nat → Nat} {h1 h2 : Hp}
abbrev ShO (ρ : Nat → Nat) (l1 l2 : Nat) (os os2 : List Dk.Obj) : Prop := Sh ρ ⟨os, l1⟩ ⟨os2, l2⟩
mutual
theorem shareC_ren {l2 : Nat} : ∀ (lim n : Nat) (e : EV) (os : List Dk.Obj) (x : PD) (os' : List Dk.Obj), shareC lim n e os = some (x, os') → ∀ os2, ShO ρ lim l2 os os2 → ∃ os2', shareC l2 n (e.ren ρ) os2 = some (x, os2') ∧ ShO ρ lim l2 os' os2'
 | lim, n, .p x, os, x', os', h, os2, S => by simp [shareC] at h; obtain ⟨rfl, rfl⟩ := h; exact ⟨os2, by simp [shareC, EV.ren], S⟩
 | lim, n, .full xs, os, x', os', h, os2, S => by simp [shareC] at h; obtain ⟨rfl, rfl⟩ := h; exact ⟨os2, by simp [shareC, EV.ren], S⟩
 | lim, n + 1, .arr id gn sz off len f, os, x', os', h, os2, S => by
  simp only [shareC] at h
  split at h
  · rename_i a ha
    split at h
    · rename_i hc
      split at h
      · rename_i ps os1 hels
        obtain ⟨os3, e1, S1⟩ := shareEls_ren lim n _ _ os ps os1 hels os2 S
        split at h
        · rename_i a' ha'
          simp only [Option.some.injEq, Prod.mk.injEq] at h
          obtain ⟨rfl, rfl⟩ := h
          have g1 := S.get _ _ ha
          have g2 := S1.get _ _ ha'
          simp only [Obj.ren, Arr.ren] at g1 g2
          refine ⟨_, ?_, S1.set (o := .cells _) fun l q => by cases q⟩
          simp only [EV.ren, shareC, g1]
          rw [if_pos ⟨hc.1, hc.2.1, by simpa [rows] using hc.2.2.1, S.lim _ hc.2.2.2⟩]
          simp only [rows, ← List.map_drop, ← List.map_take] at e1 ⊢
          simp only [e1, g2]
          simp [Obj.ren, Arr.ren, rows]
        · cases h
      · cases h
    · cases h
  · cases h
 | lim, 0, .arr .., os, x', os', h, os2, S => by simp [shareC] at h
 | lim, n, .ptr .., os, x', os', h, os2, S => by simp [shareC] at h
 | lim, n, .sub .., os, x', os', h, os2, S => by simp [shareC] at h
 | lim, n, .nilp, os, x', os', h, os2, S => by simp [shareC] at h
 | lim, n, .cp .., os, x', os', h, os2, S => by simp [shareC] at h
 | lim, n, .fn .., os, x', os', h, os2, S => by simp [shareC] at h
 | lim, n, .nilf, os, x', os', h, os2, S => by simp [shareC] at h
 | lim, n, .map _, os, x', os', h, os2, S => by simp [shareC] at h
 | lim, n, .nilmap, os, x', os', h, os2, S => by simp [shareC] at h
 | lim, n, .bld _, os, x', os', h, os2, S => by simp [shareC] at h
 | lim, n, .yld _, os, x', os', h, os2, S => by simp [shareC] at h
 | lim, n, .iface .., os, x', os', h, os2, S => by simp [shareC] at h
 | lim, n, .nili, os, x', os', h, os2, S => by simp [shareC] at h
 | lim, n, .agg _, os, x', os', h, os2, S => by simp [shareC] at h
 | lim, n, .tup _, os, x', os', h, os2, S => by simp [shareC] at h
 | lim, n, .junk, os, x', os', h, os2, S => by simp [shareC] at h
theorem shareEls_ren {l2 : Nat} : ∀ (lim n : Nat) (ag : Bool) (els : List (List EV)) (os : List Dk.Obj) (xs : List PD) (os' : List Dk.Obj), shareEls lim n ag els os = some (xs, os') → ∀ os2, ShO ρ lim l2 os os2 → ∃ os2', shareEls l2 n ag (rows ρ els) os2 = some (xs, os2') ∧ ShO ρ lim l2 os' os2'
 | lim, n, ag, [], os, xs, os', h, os2, S => by simp [shareEls] at h; obtain ⟨rfl, rfl⟩ := h; exact ⟨os2, by simp [shareEls, rows], S⟩
 | lim, n, ag, el :: r, os, xs, os', h, os2, S => by
  simp only [shareEls] at h
  split at h
  · rename_i cs os1 hcs
    obtain ⟨os3, e1, S1⟩ := shareCs_ren lim n el os cs os1 hcs os2 S
    split at h
    · rename_i x hx
      split at h
      · rename_i xs' os4 hr
        obtain ⟨os5, e2, S2⟩ := shareEls_ren lim n ag r os1 xs' os4 hr os3 S1
        simp only [Option.some.injEq, Prod.mk.injEq] at h
        obtain ⟨rfl, rfl⟩ := h
        refine ⟨os5, ?_, S2⟩
        simp only [rows, List.map_cons] at e2 ⊢
        simp only [shareEls, e1]
        split
        · rename_i y hy
          have : x = y := Option.some.inj (hx.symm.trans hy)
          subst this
          simp only [e2]
        · rename_i hy
          exact absurd (hx.symm.trans hy) (by simp)
      · cases h
    · cases h
  · cases h
theorem shareCs_ren {l2 : Nat} : ∀ (lim n : Nat) (es : List EV) (os : List Dk.Obj) (cs : List PD) (os' : List Dk.Obj), shareCs lim n es os = some (cs, os') → ∀ os2, ShO ρ lim l2 os os2 → ∃ os2', shareCs l2 n (es.map (EV.ren ρ)) os2 = some (cs, os2') ∧ ShO ρ lim l2 os' os2'
 | lim, n, [], os, cs, os', h, os2, S => by simp [shareCs] at h; obtain ⟨rfl, rfl⟩ := h; exact ⟨os2, by simp [shareCs], S⟩
 | lim, n, e :: r, os, cs, os', h, os2, S => by
  simp only [shareCs] at h
  split at h
  · rename_i x os1 hx
    obtain ⟨os3, e1, S1⟩ := shareC_ren lim n e os x os1 hx os2 S
    split at h
    · rename_i xs os4 hr
      obtain ⟨os5, e2, S2⟩ := shareCs_ren lim n r os1 xs os4 hr os3 S1
      simp only [Option.some.injEq, Prod.mk.injEq] at h
      obtain ⟨rfl, rfl⟩ := h
      exact ⟨os5, by simp only [List.map_cons, shareCs, e1, e2], S2⟩
    · cases h
  · cases h
end
end Dk
namespace Dk
open Go
variable {ρ : Nat → Nat} {h1 h2 : Hp}
theorem loadAt_ren (S : Sh ρ h1 h2) {ag : Bool} {n : Nat} {x v : EV} (h : loadAt ag n x h1 = some v) : loadAt ag n (x.ren ρ) h2 = some (v.ren ρ) := by
 unfold loadAt at h
 split at h
 · split at h
   · rename_i a ha
     split at h
     · rename_i el hel
       split at h
       · rename_i hc
         simp only [EV.ren, loadAt, S.arr ha, Arr.ren, rows, List.getElem?_map, hel, Option.map_some, List.length_map, if_pos hc]
         rw [← List.map_drop, ← List.map_take]
         exact mk_ren h
       · cases h
     · cases h
   · cases h
 · rename_i cs o
   split at h
   · rename_i hc
     simp only [EV.ren, loadAt, if_pos hc]
     have e : (((cs.drop o).take n).map EV.p).map (EV.ren ρ) = ((cs.drop o).take n).map EV.p := by
      rw [List.map_map]
      exact List.map_congr_left fun x _ => by simp [EV.ren]
     rw [← e]
     exact mk_ren h
   · cases h
 · cases h
theorem cellEq_ren {c : CK} {x y : EV} {b : Bool} (h : cellEq c x y = some b) : cellEq c (x.ren ρ) (y.ren ρ) = some b := by
 unfold cellEq at h
 split at h <;> first | (cases h; done) | (simp only [EV.ren]; exact h)
theorem cellsEq_ren : ∀ {ks : List CK} {x y : List EV} {b : Bool}, cellsEq ks x y = some b → cellsEq ks (x.map (EV.ren ρ)) (y.map (EV.ren ρ)) = some b
 | [], [], [], b, h => h
 | c :: cs, a :: r, d :: s, b, h => by
  simp only [cellsEq] at h
  split at h
  · rename_i x hx
    split at h
    · rename_i y hy
      cases h
      simp only [List.map_cons, cellsEq, cellEq_ren hx, cellsEq_ren hy]
    · cases h
  · cases h
 | [], [], _ :: _, b, h => by simp [cellsEq] at h
 | [], _ :: _, _, b, h => by simp [cellsEq] at h
 | _ :: _, [], _, b, h => by simp [cellsEq] at h
 | _ :: _, _ :: _, [], b, h => by simp [cellsEq] at h
theorem evEq_ren {ek : EK} {x y : EV} {b : Bool} (h : evEq ek x y = some b) : evEq ek (x.ren ρ) (y.ren ρ) = some b := by
 unfold evEq at h
 split at h <;> first
  | (cases h; done)
  | (simp only [EV.ren, evEq]; exact h)
  | (simp only [EV.ren, evEq, rens_map]; exact cellsEq_ren h)
theorem binOp_ren {op : BinOp} {ek : EK} {x y v : EV} (h : binOp op ek x y = some v) : binOp op ek (x.ren ρ) (y.ren ρ) = some (v.ren ρ) := by
 unfold binOp at h
 split at h
 · rename_i k a k' b
   have hv : v.ren ρ = v := by
    split at h <;> first
     | (simp only [Option.map_eq_some_iff] at h; obtain ⟨q, _, rfl⟩ := h; simp [EV.ren])
     | (split at h <;> first | (simp only [Option.map_eq_some_iff] at h; obtain ⟨q, _, rfl⟩ := h; simp [EV.ren]) | cases h)
   rw [hv]
   simp only [EV.ren, binOp]
   exact h
 · rename_i a b
   have hv : v.ren ρ = v := by
    simp only [Option.map_eq_some_iff] at h
    obtain ⟨q, _, rfl⟩ := h
    simp [EV.ren]
   rw [hv]
   simp only [EV.ren, binOp]
   exact h
 · rename_i hn1 hn2
   have key : ∀ (a b : EV), (∀ (k : IntKind) (x1 : Int) (k' : IntKind) (x2 : Int), a = .p (.int k x1) → b = .p (.int k' x2) → False) → (∀ x1 x2, a = .p (.str x1) → b = .p (.str x2) → False) → binOp op ek a b = (match (generalizing := false) op with
    | .eql => (evEq ek a b).map fun b => .p (.bool b)
    | .neq => (evEq ek a b).map fun b => .p (.bool (!b))
    | _ => none) := by
    intro a b q1 q2
    unfold binOp
    split
    · exact (q1 _ _ _ _ rfl rfl).elim
    · exact (q2 _ _ rfl rfl).elim
    · rfl
   rw [key]
   · split at h
     · simp only [Option.map_eq_some_iff] at h ⊢
       obtain ⟨b, q, rfl⟩ := h
       exact ⟨b, evEq_ren q, by simp [EV.ren]⟩
     · simp only [Option.map_eq_some_iff] at h ⊢
       obtain ⟨b, q, rfl⟩ := h
       exact ⟨b, evEq_ren q, by simp [EV.ren]⟩
     · cases h
   · intro k x1 k' x2 e1 e2
     cases x <;> simp only [EV.ren] at e1 <;> first | (cases e1; done) | skip
     cases y <;> simp only [EV.ren] at e2 <;> first | (cases e2; done) | skip
     cases e1; cases e2
     exact hn1 _ _ _ _ rfl rfl
   · intro x1 x2 e1 e2
     cases x <;> simp only [EV.ren] at e1 <;> first | (cases e1; done) | skip
     cases y <;> simp only [EV.ren] at e2 <;> first | (cases e2; done) | skip
     cases e1; cases e2
     exact hn2 _ _ rfl rfl
theorem unOp_ren {op : UnOp} {x v : EV} (h : unOp op x = some v) : unOp op (x.ren ρ) = some (v.ren ρ) := by
 unfold unOp at h
 split at h <;> first | (cases h; done) | (cases h; simp only [EV.ren, unOp])
theorem idx_ren (i : EV) (n : Nat) : idx (i.ren ρ) n = idx i n := by
 cases i <;> simp only [EV.ren, idx]
theorem bound_ren (i : EV) (n : Nat) : bound (i.ren ρ) n = bound i n := by
 cases i <;> simp only [EV.ren, bound]
theorem upper_ren (n : Nat) (o : Option EV) : upper n (o.map (EV.ren ρ)) = upper n o := by
 cases o <;> simp [upper, bound_ren]
theorem lower_ren (n : Nat) (o : Option EV) : lower n (o.map (EV.ren ρ)) = lower n o := by
 cases o <;> simp [lower, bound_ren]
theorem bounds_ren (n : Nat) (lo hi mx : Option EV) : bounds n (lo.map (EV.ren ρ)) (hi.map (EV.ren ρ)) (mx.map (EV.ren ρ)) = bounds n lo hi mx := by
 unfold bounds
 rw [upper_ren]
 split
 · rfl
 · rw [lower_ren]
   split
   · rfl
   · cases mx with
     | none => rfl
     | some m => simp [bound_ren]
theorem sliceOf_ren {sz : Nat} {x v : EV} {lo hi mx : Option EV} (h : sliceOf sz x lo hi mx = some v) : sliceOf sz (x.ren ρ) (lo.map (EV.ren ρ)) (hi.map (EV.ren ρ)) (mx.map (EV.ren ρ)) = some (v.ren ρ) := by
 unfold sliceOf at h
 split at h
 · simp only [sliceOf, EV.ren, bounds_ren, Option.isSome_map]
   split at h
   · rename_i hs
     try rw [if_pos hs]
     split at h
     · cases h
       split <;> simp [EV.ren]
     · cases h
   · cases h
 · simp only [sliceOf, EV.ren, bounds_ren, Option.isSome_map]
   split at h
   · rename_i hs
     try rw [if_pos hs]
     split at h
     · cases h
       split <;> simp [EV.ren]
     · cases h
   · cases h
 · simp only [sliceOf, EV.ren, bounds_ren, Option.isSome_map]
   split at h
   · rename_i hs
     try rw [if_pos hs]
     split at h
     · cases h
       split <;> simp [EV.ren]
     · cases h
   · cases h
 · cases h
theorem sliceArr_ren {n sz : Nat} {x v : EV} {lo hi : Option EV} (h : sliceArr n sz x lo hi = some v) : sliceArr n sz (x.ren ρ) (lo.map (EV.ren ρ)) (hi.map (EV.ren ρ)) = some (v.ren ρ) := by
 cases x <;> simp only [sliceArr, EV.ren] at h ⊢ <;> first | (cases h; done) | skip
 case cp cs o =>
  cases lo <;> cases hi <;> simp only [Option.map_none, Option.map_some] at h ⊢ <;> first | (cases h; done) | skip
  split at h
  · rename_i hc; rw [if_pos hc]; cases h; simp only [EV.ren]
  · cases h
 have := bounds_ren (ρ := ρ) n lo hi none
 simp only [Option.map_none] at this
 rw [this]
 split at h
 · rename_i l u hb
   try simp only [hb]
   cases h
   simp [EV.ren]
 · cases h
theorem sliceStr_ren {x v : EV} {lo hi : Option EV} (h : sliceStr x lo hi = some v) : sliceStr (x.ren ρ) (lo.map (EV.ren ρ)) (hi.map (EV.ren ρ)) = some (v.ren ρ) := by
 unfold sliceStr at h
 split at h
 · rename_i s
   have := bounds_ren (ρ := ρ) s.size lo hi none
   simp only [Option.map_none] at this
   simp only [sliceStr, EV.ren, this]
   split at h
   · rename_i l u hb
     try simp only [hb]
     cases h
     simp [EV.ren]
   · cases h
 · cases h
theorem fldAt_ren {o : Nat} {x v : EV} (h : fldAt o x = some v) : fldAt o (x.ren ρ) = some (v.ren ρ) := by
 unfold fldAt at h
 split at h <;> first | (cases h; done) | (cases h; simp only [EV.ren, fldAt])
theorem fgetAt_ren {o n : Nat} {ag : Bool} {x v : EV} (h : fgetAt o n ag x = some v) : fgetAt o n ag (x.ren ρ) = some (v.ren ρ) := by
 unfold fgetAt at h
 split at h
 · split at h
   · rename_i cs hc
     simp only [EV.ren, fgetAt, rens_map, List.length_map, if_pos hc]
     rw [← List.map_drop, ← List.map_take]
     exact mk_ren h
   · cases h
 · cases h
theorem indexAddr_ren {sz : Nat} {x i v : EV} (h : indexAddr sz x i = some v) : indexAddr sz (x.ren ρ) (i.ren ρ) = some (v.ren ρ) := by
 have lists : ∀ xs : List PD, (match idx i xs.length with
  | some k => match xs[k]? with
   | some e => if e.cells.length = sz then some (EV.cp e.cells 0) else none
   | none => none
  | none => none) = some v → v.ren ρ = v := by
  intro xs h
  (repeat' split at h) <;> first | (cases h; done) | (cases h; simp [EV.ren])
 unfold indexAddr at h
 split at h
 · rw [lists _ h]; simp only [EV.ren, indexAddr, idx_ren]; exact h
 · rw [lists _ h]; simp only [EV.ren, indexAddr, idx_ren]; exact h
 · simp only [EV.ren, indexAddr, idx_ren]
   split at h
   · rename_i hs
     rw [if_pos hs]
     split at h
     · cases h; simp [EV.ren]
     · cases h
   · cases h
 · simp only [EV.ren, indexAddr, idx_ren]
   split at h
   · rename_i hs
     rw [if_pos hs]
     split at h
     · cases h; simp [EV.ren]
     · cases h
   · cases h
 · cases h
theorem ixpAt_ren {n sz : Nat} {x i v : EV} (h : ixpAt n sz x i = some v) : ixpAt n sz (x.ren ρ) (i.ren ρ) = some (v.ren ρ) := by
 unfold ixpAt at h ⊢
 rw [idx_ren]
 cases hi : idx i n with
 | none => simp [hi] at h
 | some k =>
  simp only [hi] at h ⊢
  cases x <;> simp only [EV.ren] at h ⊢ <;> first | (cases h; done) | (cases h; simp [EV.ren])
theorem bytes1_ren (ρ : Nat → Nat) : ∀ (els : List (List EV)) (s t : ByteArray), bytes1 els s = some t → bytes1 (rows ρ els) s = some t
 | [], _, _, h => h
 | el :: r, s, t, h => by
  simp only [bytes1] at h
  split at h
  · simp only [rows, List.map_cons, List.map_nil, EV.ren, bytes1]
    exact bytes1_ren ρ r _ t h
  · cases h
theorem elsOf_ren (S : Sh ρ h1 h2) {sz : Nat} {x : EV} {els : List (List EV)} (h : elsOf sz x h1 = some els) : elsOf sz (x.ren ρ) h2 = some (rows ρ els) := by
 have lists : ∀ xs : List PD, rows ρ (xs.map toEV) = xs.map toEV := fun xs => by
  simp only [rows, List.map_map]
  refine List.map_congr_left fun x _ => ?_
  simp [toEV, EV.ren]
 unfold elsOf at h
 split at h
 · split at h
   · rename_i hs; cases h; simp only [EV.ren, elsOf, if_pos hs, lists]
   · cases h
 · split at h
   · rename_i hs; cases h; simp only [EV.ren, elsOf, if_pos hs, lists]
   · cases h
 · split at h
   · rename_i a ha
     split at h
     · rename_i hc
       cases h
       simp only [EV.ren, elsOf, S.arr ha, Arr.ren, rows, List.length_map, if_pos hc]
       rw [List.map_take, List.map_drop]
     · cases h
   · cases h
 · cases h
theorem elsX_ren (S : Sh ρ h1 h2) {sz : Nat} {x : EV} {els : List (List EV)} (h : elsX sz x h1 = some els) : elsX sz (x.ren ρ) h2 = some (rows ρ els) := by
 unfold elsX at h
 split at h
 · rename_i ys hy
   cases h
   simp only [elsX, elsOf_ren S hy]
 · unfold subEls at h
   split at h
   · split at h
     · rename_i a ha
       split at h
       · rename_i el hel
         split at h
         · rename_i hc
           cases h
           simp only [EV.ren, elsX, elsOf, subEls, S.arr ha, Arr.ren, rows, List.getElem?_map, hel, Option.map_some, List.length_map, if_pos hc, List.map_map]
           congr 1
           refine List.map_congr_left fun i _ => ?_
           simp [List.map_take, List.map_drop]
         · cases h
       · cases h
     · cases h
   · cases h
theorem textOf_ren (S : Sh ρ h1 h2) {x : EV} {s : ByteArray} (h : textOf x h1 = some s) : textOf (x.ren ρ) h2 = some s := by
 unfold textOf at h ⊢
 split at h
 · rename_i els he
   rw [elsOf_ren S he]
   exact bytes1_ren ρ _ _ _ h
 · cases h
theorem findKey_ren (k : PD) (es : List (PD × EV)) : findKey k (ents' ρ es) = (findKey k es).map (EV.ren ρ) := by
 induction es with
 | nil => rfl
 | cons e es ih =>
  obtain ⟨x, v⟩ := e
  simp only [ents', List.map_cons, findKey] at ih ⊢
  split
  · rfl
  · exact ih
theorem setKey_ren (k : PD) (v : EV) (es : List (PD × EV)) : setKey k (v.ren ρ) (ents' ρ es) = ents' ρ (setKey k v es) := by
 induction es with
 | nil => rfl
 | cons e es ih =>
  obtain ⟨x, u⟩ := e
  simp only [ents', List.map_cons, setKey] at ih ⊢
  split
  · rfl
  · simp only [List.map_cons, ih]
theorem delKey_ren (k : PD) (es : List (PD × EV)) : delKey k (ents' ρ es) = ents' ρ (delKey k es) := by
 induction es with
 | nil => rfl
 | cons e es ih =>
  obtain ⟨x, u⟩ := e
  simp only [ents', List.map_cons, delKey] at ih ⊢
  split
  · rfl
  · simp only [List.map_cons, ih]
theorem all_ren (f : PD → Bool) (es : List (PD × EV)) : (ents' ρ es).all (fun e => f e.1) = es.all fun e => f e.1 := by
 simp only [ents', List.all_map]
 rfl
theorem mapGet_ren (S : Sh ρ h1 h2) {ck : CK} {z m k v : EV} {b : Bool} (hz : z.ren ρ = z) (h : mapGet ck z m k h1 = some (v, b)) : mapGet ck z (m.ren ρ) (k.ren ρ) h2 = some (v.ren ρ, b) := by
 unfold mapGet at h
 split at h
 · split at h
   · rename_i k ha
     split at h
     · cases h; simp only [EV.ren, mapGet, if_pos ha, hz]
     · split at h
       · rename_i es hes
         split at h
         · rename_i hal
           simp only [EV.ren, mapGet, if_pos ha, S.mapOf hes, all_ren (fun e => PD.alike ck k e), if_pos hal, findKey_ren]
           split at h
           · rename_i u hu; cases h; simp only [hu, Option.map_some]
           · rename_i hu; cases h; simp only [hu, Option.map_none, hz]
         · cases h
       · cases h
     · cases h
   · cases h
 · cases h
theorem lenOf_ren (S : Sh ρ h1 h2) {kd : Nat} {x : EV} {n : Nat} (h : lenOf kd x h1 = some n) : lenOf kd (x.ren ρ) h2 = some n := by
 unfold lenOf at h
 split at h
 · simp only [EV.ren, lenOf]; exact h
 · simp only [EV.ren, lenOf]; exact h
 · simp only [EV.ren, lenOf]; exact h
 · simp only [EV.ren, lenOf]; exact h
 · simp only [EV.ren, lenOf]; exact h
 · simp only [EV.ren, lenOf]; exact h
 · split at h
   · rename_i es hes
     cases h
     simp [EV.ren, lenOf, S.mapOf hes, ents']
   · cases h
 · cases h
theorem cntOf_ren (S : Sh ρ h1 h2) {k : Int} {v : EV} {n : Int} (h : cntOf k v h1 = some n) : cntOf k (v.ren ρ) h2 = some n := by
 unfold cntOf at h ⊢
 split at h
 · rename_i hk
   rw [if_pos hk]
   split at h
   · rename_i p hp
     rw [fldAt_ren hp]
     dsimp only
     split at h
     · rename_i s hs
       rw [loadAt_ren S hs]
       dsimp only
       split at h
       · rename_i m hm
         rw [lenOf_ren S hm]
         exact h
       · cases h
     · cases h
   · cases h
 · rename_i hk
   rw [if_neg hk]
   unfold deepOf at h ⊢
   split at h
   · rename_i p hp
     rw [fldAt_ren hp]
     dsimp only
     split at h
     · rename_i s hs
       rw [loadAt_ren S hs]
       dsimp only
       split at h
       · rename_i ps os' hsh
         obtain ⟨os2', e, _⟩ := shareC_ren _ _ _ _ _ _ hsh _ (l2 := h2.lim) S
         rw [e]
         exact h
       · cases h
     · cases h
   · cases h
theorem sumEs_ren (S : Sh ρ h1 h2) {k : Int} : ∀ {es : List (PD × EV)} {n : Int}, sumEs k h1 es = some n → sumEs k h2 (es.map fun e => (e.1, e.2.ren ρ)) = some n
 | [], n, h => h
 | (p, v) :: r, n, h => by
  simp only [sumEs] at h
  split at h
  · rename_i a b ha hb
    cases h
    simp only [List.map_cons, sumEs, cntOf_ren S ha, sumEs_ren S hb]
  · cases h
theorem mapNth_ren (S : Sh ρ h1 h2) {m i v : EV} (h : mapNth m i h1 = some v) : mapNth (m.ren ρ) (i.ren ρ) h2 = some (v.ren ρ) := by
 unfold mapNth at h
 split at h
 · rename_i k
   split at h
   · split at h
     · rename_i es hes
       split at h
       · rename_i n hn
         cases h
         simp only [EV.ren, mapNth, S.mapOf hes]
         have := sumEs_ren S hn
         unfold ents'
         rw [this]
       · cases h
     · cases h
   · cases h; simp only [EV.ren, mapNth]
   · cases h
 · cases h
theorem lay_ren : ∀ {ps : List (Nat × Nat × EV)} {cs r : List EV}, lay cs ps = some r → lay (cs.map (EV.ren ρ)) (ps.map fun p => (p.1, p.2.1, p.2.2.ren ρ)) = some (r.map (EV.ren ρ))
 | [], cs, r, h => by simp only [lay] at h; cases h; rfl
 | (o, n, v) :: ps, cs, r, h => by
  simp only [lay] at h
  split at h
  · rename_i hc
    have := lay_ren h
    simp only [List.map_cons, lay, cells_ren, List.length_map, ones_ren]
    rw [if_pos hc]
    rw [← this]
    congr 1
    simp [List.map_take, List.map_drop]
  · cases h
theorem layEls_ren {sz : Nat} : ∀ {ps : List (Nat × EV)} {els r : List (List EV)}, layEls sz els ps = some r → layEls sz (rows ρ els) (ps.map fun p => (p.1, p.2.ren ρ)) = some (rows ρ r)
 | [], els, r, h => by simp only [layEls] at h; cases h; rfl
 | (i, v) :: ps, els, r, h => by
  simp only [layEls] at h
  split at h
  · rename_i hc
    have := layEls_ren h
    simp only [List.map_cons, layEls, cells_ren, List.length_map, ones_ren]
    rw [if_pos (by simpa [rows] using hc)]
    rw [← this]
    congr 1
    simp [rows, List.map_set]
  · cases h
theorem someIn_ren (v : EV) : someIn (v.ren ρ) = someIn v := by cases v <;> simp only [EV.ren, someIn]
theorem closed_rens {l : List EV} (h : EV.unders 0 l = true) : l.map (EV.ren ρ) = l := by rw [← rens_map]; exact rens_under ρ l h
theorem look_ren (S : Sh ρ h1 h2) {op : DOp} (hc : op.cl = true) {fr : Fr} {v : EV} (h : look op fr h1 = some v) : look op (fr.ren ρ) h2 = some (v.ren ρ) := by
 cases op <;> simp only [DOp.cl, Bool.and_eq_true] at hc <;> simp only [look] at h ⊢ <;> first | (cases h; done) | skip
 case mv x => cases h; rw [ev_ren hc]
 case pick c a b =>
  rw [ev_ren hc.1.1, ev_ren hc.1.2, ev_ren hc.2]
  split at h
  · rename_i t ht
    cases h
    simp only [ht, EV.ren]
    cases t <;> rfl
  · cases h
 case nz x =>
  rw [ev_ren hc]
  split at h <;> first | (cases h; done) | (rename_i hx; cases h; simp only [hx, EV.ren])
 case build zs ps =>
  simp only [Option.map_eq_some_iff] at h ⊢
  obtain ⟨cs, q, rfl⟩ := h
  refine ⟨cs.map (EV.ren ρ), ?_, by simp [EV.ren, rens_map]⟩
  have := @lay_ren ρ _ _ _ q
  rw [closed_rens hc.1] at this
  rw [← this, List.map_map]
  congr 1
  refine List.map_congr_left fun p hp => ?_
  simp only [Function.comp, ev_ren (List.all_eq_true.1 hc.2 p hp)]
 case ld ag n x => rw [ev_ren hc]; exact loadAt_ren S h
 case bin op ek x y => rw [ev_ren hc.1, ev_ren hc.2]; exact binOp_ren h
 case isnil ne x =>
  rw [ev_ren hc, someIn_ren]
  split at h
  · rename_i hs; cases h; rw [if_pos hs]; simp [EV.ren]
  · cases h
 case un op x => rw [ev_ren hc]; exact unOp_ren h
 case conv k x =>
  rw [ev_ren hc]
  split at h
  · rename_i hx; cases h; simp only [hx, EV.ren]
  · cases h
 case mkf f a b => cases h; simp only [evs_ren hc.1, evs_ren hc.2, EV.ren, rens_map]
 case slc sz x lo hi mx => rw [ev_ren hc.1.1.1, evo_ren hc.1.1.2, evo_ren hc.1.2, evo_ren hc.2]; exact sliceOf_ren h
 case sla n sz x lo hi => rw [ev_ren hc.1.1, evo_ren hc.1.2, evo_ren hc.2]; exact sliceArr_ren h
 case sls x lo hi => rw [ev_ren hc.1.1, evo_ren hc.1.2, evo_ren hc.2]; exact sliceStr_ren h
 case fld o x => rw [ev_ren hc]; exact fldAt_ren h
 case fget o n ag x => rw [ev_ren hc]; exact fgetAt_ren h
 case ixa sz x i => rw [ev_ren hc.1, ev_ren hc.2]; exact indexAddr_ren h
 case ixp l sz x i => rw [ev_ren hc.1, ev_ren hc.2]; exact ixpAt_ren h
 case ixs x i =>
  rw [ev_ren hc.1, ev_ren hc.2, ]
  split at h
  · rename_i s hx
    simp only [hx, EV.ren, idx_ren]
    split at h
    · rename_i k hk
      try simp only [hk]
      split at h
      · rename_i b hb; cases h; simp only [EV.ren]
      · cases h
    · cases h
  · cases h
 case ixg l sz ag x i =>
  rw [ev_ren hc.1, ev_ren hc.2, idx_ren]
  split at h
  · rename_i k cs hk hx
    simp only [hk, hx, EV.ren, rens_map, List.length_map]
    split at h
    · rename_i hle
      rw [if_pos hle, ← List.map_drop, ← List.map_take]
      exact mk_ren h
    · cases h
  · cases h
 case look ck z ok m k =>
  rw [ev_ren hc.1.2, ev_ren hc.2]
  split at h
  · rename_i u b hm
    cases h
    simp only [mapGet_ren S (ren_under ρ z hc.1.1) hm]
    cases ok <;> simp [EV.ren, EV.rens]
  · cases h
 case ext x i =>
  rw [ev_ren hc]
  split at h
  · rename_i vs hx
    simp only [hx, EV.ren, rens_map, List.getElem?_map, h, Option.map_some]
  · cases h
 case len kd x =>
  rw [ev_ren hc]
  cases hl : lenOf kd (x.ev fr) h1 with
  | none => rw [hl] at h; cases h
  | some n =>
   rw [hl] at h
   cases h
   rw [lenOf_ren S hl]
   simp [EV.ren]
 case cap x =>
  rw [ev_ren hc]
  split at h
  · rename_i xs hx; cases h; simp only [hx, EV.ren]
  · cases h
 case fnb x y =>
  rw [ev_ren hc.1, ev_ren hc.2]
  split at h
  · rename_i hx hy; cases h; simp only [hx, hy, EV.ren]
  · cases h
 case fnd m x y =>
  rw [ev_ren hc.1, ev_ren hc.2]
  split at h
  · rename_i hx hy
    simp only [hx, hy, EV.ren]
    split at h
    · rename_i hq; rw [if_pos hq]; cases h; simp only [EV.ren]
    · cases h
  · cases h
 case mki t x => cases h; rw [ev_ren hc]; simp only [EV.ren]
 case asr t z x =>
  rw [ev_ren hc.2]
  split at h
  · rename_i hx
    cases h
    simp only [hx, EV.ren, EV.rens, ren_under ρ z hc.1]
  · rename_i u v hx
    simp only [hx, EV.ren]
    split at h
    · rename_i hu; cases h; rw [if_pos hu]; simp only [EV.ren, EV.rens]
    · rename_i hu; cases h; rw [if_neg hu]; simp only [EV.ren, EV.rens, ren_under ρ z hc.1]
  · cases h
 case mnx m x y =>
  rw [ev_ren hc.1, ev_ren hc.2]
  split at h
  · rename_i hx hy; cases h; simp only [hx, hy, EV.ren]
  · cases h
end Dk
namespace Dk
open Go
variable {ρ : Nat → Nat} {h1 h2 : Hp}
theorem makeObj_ren {op : DOp} (hc : op.cl = true) {fr : Fr} {f : Nat → EV} {o : Dk.Obj} (h : makeObj op fr = some (f, o)) : (∃ f', makeObj op (fr.ren ρ) = some (f', o.ren ρ) ∧ ∀ id, f' (ρ id) = (f id).ren ρ) ∧ ∀ l, o ≠ Dk.Obj.loop l := by
 cases op <;> simp only [DOp.cl, Bool.and_eq_true] at hc <;> simp only [makeObj] at h ⊢ <;> first | (cases h; done) | skip
 case nils sz ag => cases h; exact ⟨⟨_, rfl, fun id => by simp [EV.ren]⟩, fun l q => by cases q⟩
 case new ag zs =>
  cases h
  refine ⟨⟨fun id => .ptr id 0 0 0, ?_, fun id => by simp [EV.ren]⟩, fun l q => by cases q⟩
  simp only [Obj.ren, Arr.ren, rows, List.map_cons, List.map_nil, closed_rens hc]
 case box ag n x =>
  rw [ev_ren hc]
  split at h
  · rename_i hn
    cases h
    refine ⟨⟨_, by rw [cells_ren, List.length_map, ones_ren, if_pos hn]; rfl, fun id => by simp [EV.ren]⟩, fun l q => by cases q⟩
  · cases h
 case lit sz ag els ps =>
  split at h
  · rename_i els' he
    cases h
    have := @layEls_ren ρ _ _ _ _ he
    have e1 : rows ρ els = els := by
     unfold rows
     conv => rhs; rw [← List.map_id els]
     refine List.map_congr_left fun l hl => ?_
     exact closed_rens (List.all_eq_true.1 hc.1 l hl)
    have e2 : (ps.map fun (i, x) => (i, X.ev (fr.ren ρ) x)) = (ps.map fun (i, x) => (i, X.ev fr x)).map fun p => (p.1, p.2.ren ρ) := by
     rw [List.map_map]
     refine List.map_congr_left fun p hp => ?_
     simp only [Function.comp, ev_ren (List.all_eq_true.1 hc.2 p hp)]
    rw [e1] at this
    refine ⟨⟨_, by rw [e2, this]; rfl, fun id => by simp [EV.ren, rows]⟩, fun l q => by cases q⟩
  · cases h
 case nbld => cases h; exact ⟨⟨_, rfl, fun id => by simp [EV.ren]⟩, fun l q => by cases q⟩
 case mkmap => cases h; exact ⟨⟨_, rfl, fun id => by simp [EV.ren]⟩, fun l q => by cases q⟩
 case mks sz ag b z l c =>
  rw [ev_ren hc.1.2, ev_ren hc.2]
  split at h
  · rename_i n m hn hm
    split at h
    · rename_i hb
      cases h
      refine ⟨⟨fun id => .arr id 0 sz 0 n.toNat false, ?_, fun id => by simp [EV.ren]⟩, fun l q => by cases q⟩
      simp only [hn, hm, EV.ren]
      rw [if_pos hb]
      simp [Obj.ren, Arr.ren, rows, closed_rens hc.1.1]
    · cases h
  · cases h
theorem make_ren (S : Sh ρ h1 h2) {op : DOp} (hc : op.cl = true) {fr : Fr} {v : EV} {h1' : Hp} (h : make op fr h1 = some (v, h1')) : ∃ h2', make op (fr.ren ρ) h2 = some (v.ren ρ, h2') ∧ Sh ρ h1' h2' := by
 unfold make at h
 split at h
 · rename_i f o he
   obtain ⟨⟨f', e1, e2⟩, hne⟩ := @makeObj_ren ρ op hc fr f o he
   cases h
   refine ⟨_, by unfold make; rw [e1]; simp only [← e2, S.last], S.new fun l q => (hne l q).elim⟩
 · cases h
theorem storeAt_ren (S : Sh ρ h1 h2) {n : Nat} {x v : EV} {h1' : Hp} (h : storeAt n x v h1 = some h1') : ∃ h2', storeAt n (x.ren ρ) (v.ren ρ) h2 = some h2' ∧ Sh ρ h1' h2' := by
 unfold storeAt at h
 split at h
 · split at h
   · rename_i a ha
     split at h
     · rename_i el hel
       split at h
       · rename_i hc
         cases h
         obtain ⟨c1, c2, c3, c4, c5⟩ := hc
         refine ⟨_, ?_, S.set (o := .cells _) fun l q => by cases q⟩
         simp only [EV.ren, storeAt, S.arr ha, Arr.ren, rows, List.getElem?_map, hel, Option.map_some, List.length_map, cells_ren, ones_ren]
         rw [if_pos ⟨c1, c2, c3, c4, S.lim _ c5⟩]
         simp [Hp.setArr, Obj.ren, Arr.ren, rows, List.map_set, List.map_take, List.map_drop]
       · cases h
     · cases h
   · cases h
 · cases h
theorem mapSet_ren (S : Sh ρ h1 h2) {ck : CK} {m k v : EV} {h1' : Hp} (h : mapSet ck m k v h1 = some h1') : ∃ h2', mapSet ck (m.ren ρ) (k.ren ρ) (v.ren ρ) h2 = some h2' ∧ Sh ρ h1' h2' := by
 unfold mapSet at h
 split at h
 · rename_i k id
   split at h
   · rename_i ha
     split at h
     · rename_i es hes
       split at h
       · rename_i hc
         cases h
         refine ⟨_, ?_, S.set (o := .map _) fun l q => by cases q⟩
         simp only [EV.ren, mapSet, if_pos ha, S.mapOf hes, all_ren (fun e => PD.alike ck k e)]
         rw [if_pos ⟨hc.1, S.lim _ hc.2⟩, setKey_ren]
         rfl
       · cases h
     · cases h
   · cases h
 · cases h
theorem mapDel_ren (S : Sh ρ h1 h2) {ck : CK} {m k : EV} {h1' : Hp} (h : mapDel ck m k h1 = some h1') : ∃ h2', mapDel ck (m.ren ρ) (k.ren ρ) h2 = some h2' ∧ Sh ρ h1' h2' := by
 unfold mapDel at h
 split at h
 · rename_i k id
   split at h
   · rename_i ha
     split at h
     · rename_i es hes
       split at h
       · rename_i hc
         cases h
         refine ⟨_, ?_, S.set (o := .map _) fun l q => by cases q⟩
         simp only [EV.ren, mapDel, if_pos ha, S.mapOf hes, all_ren (fun e => PD.alike ck k e)]
         rw [if_pos ⟨hc.1, S.lim _ hc.2⟩, delKey_ren]
         rfl
       · cases h
     · cases h
   · cases h
 · split at h
   · rename_i ha
     cases h
     exact ⟨h2, by simp only [EV.ren, mapDel, if_pos ha], S⟩
   · cases h
 · cases h
theorem appendEls_ren (S : Sh ρ h1 h2) {sz : Nat} {ag : Bool} {bytes : Nat} {s v : EV} {ys : List (List EV)} {h1' : Hp} (h : appendEls sz ag bytes s ys h1 = some (v, h1')) : ∃ h2', appendEls sz ag bytes (s.ren ρ) (rows ρ ys) h2 = some (v.ren ρ, h2') ∧ Sh ρ h1' h2' := by
 have hemp : (rows ρ ys).isEmpty = ys.isEmpty := by cases ys <;> rfl
 have hlen : (rows ρ ys).length = ys.length := by simp [rows]
 unfold appendEls at h
 split at h
 · split at h
   · rename_i hy
     cases h
     exact ⟨h2, by simp only [EV.ren, appendEls, hemp, if_pos hy], S⟩
   · cases h
 · rename_i xs
   split at h
   · rename_i hy
     cases h
     exact ⟨h2, by simp only [EV.ren, appendEls, hemp, if_pos hy], S⟩
   · rename_i hy
     split at h
     · rename_i hc
       cases h
       refine ⟨_, ?_, S.new (o := .cells _) fun l q => by cases q⟩
       simp only [EV.ren, appendEls, hemp, hlen, if_neg hy, if_pos hc, S.last]
       have e : rows ρ (xs.map toEV ++ ys) = xs.map toEV ++ rows ρ ys := by
        simp only [rows, List.map_append, List.map_map]
        congr 1
        refine List.map_congr_left fun x _ => ?_
        simp [toEV, EV.ren]
       simp only [Obj.ren, Arr.ren, e]
     · cases h
 · rename_i id g s' off len f
   split at h
   · rename_i a ha
     split at h
     · rename_i hc
       have hc' : s' = sz ∧ a.sz = sz ∧ a.ag = ag ∧ off + len ≤ (rows ρ a.els).length ∧ (len + (rows ρ ys).length) * bytes ≤ 140737488355328 := by
        rw [hlen]; simpa [rows] using hc
       split at h
       · rename_i hy
         cases h
         exact ⟨h2, by simp only [EV.ren, appendEls, S.arr ha, Arr.ren, hemp]; rw [if_pos hc', if_pos hy], S⟩
       · rename_i hy
         split at h
         · rename_i hf
           cases h
           refine ⟨_, ?_, S.new (o := .cells _) fun l q => by cases q⟩
           simp only [EV.ren, appendEls, S.arr ha, Arr.ren, hemp]
           rw [if_pos hc', if_neg hy, if_pos hf, hlen]
           simp [S.last, Obj.ren, Arr.ren, rows, List.map_take, List.map_drop]
         · rename_i hf
           split at h
           · rename_i hl
             cases h
             refine ⟨_, ?_, S.set (o := .cells _) fun l q => by cases q⟩
             simp only [EV.ren, appendEls, S.arr ha, Arr.ren, hemp]
             rw [if_pos hc', if_neg hy, if_neg hf, if_pos ⟨hl.1, S.lim _ hl.2⟩, hlen]
             simp [Hp.setArr, Obj.ren, Arr.ren, rows, List.map_take, List.map_drop]
           · cases h
     · cases h
   · cases h
 · cases h
def RenC (C : CallFn) : Prop := ∀ (ρ : Nat → Nat) f args h1 h2 v h1', C f args h1 = some (v, h1') → Sh ρ h1 h2 → ∃ h2', C f (args.map (EV.ren ρ)) h2 = some (v.ren ρ, h2') ∧ Sh ρ h1' h2'
theorem act_ren {C : CallFn} (hC : RenC C) (S : Sh ρ h1 h2) {op : DOp} (hc : op.cl = true) {fr : Fr} {v : EV} {h1' : Hp} (h : act C op fr h1 = some (v, h1')) : ∃ h2', act C op (fr.ren ρ) h2 = some (v.ren ρ, h2') ∧ Sh ρ h1' h2' := by
 cases op <;> simp only [DOp.cl, Bool.and_eq_true] at hc <;> simp only [act] at h ⊢ <;> first | (cases h; done) | skip
 case st n x y =>
  simp only [Option.map_eq_some_iff] at h ⊢
  obtain ⟨q, e, e2⟩ := h
  cases e2
  obtain ⟨h2', e3, S'⟩ := storeAt_ren S e
  exact ⟨h2', ⟨h2', by rw [ev_ren hc.1, ev_ren hc.2]; exact e3, by simp [EV.ren]⟩, S'⟩
 case upd ck m k y =>
  simp only [Option.map_eq_some_iff] at h ⊢
  obtain ⟨q, e, e2⟩ := h
  cases e2
  obtain ⟨h2', e3, S'⟩ := mapSet_ren S e
  exact ⟨h2', ⟨h2', by rw [ev_ren hc.1.1, ev_ren hc.1.2, ev_ren hc.2]; exact e3, by simp [EV.ren]⟩, S'⟩
 case del ck m k =>
  simp only [Option.map_eq_some_iff] at h ⊢
  obtain ⟨q, e, e2⟩ := h
  cases e2
  obtain ⟨h2', e3, S'⟩ := mapDel_ren S e
  exact ⟨h2', ⟨h2', by rw [ev_ren hc.1, ev_ren hc.2]; exact e3, by simp [EV.ren, EV.rens]⟩, S'⟩
 case app sz ag bytes s x =>
  rw [appendTo_eq] at h
  split at h
  · cases h
  · rename_i ys hys
    obtain ⟨h2', e, S'⟩ := appendEls_ren S h
    refine ⟨h2', ?_, S'⟩
    rw [appendTo_eq, ev_ren hc.1, ev_ren hc.2, elsX_ren S hys]
    exact e
 case appz sz ag bytes z s n =>
  unfold appendZ at h
  split at h
  · rename_i k hk
    split at h
    · rename_i hle
      obtain ⟨h2', e, S'⟩ := appendEls_ren S h
      refine ⟨h2', ?_, S'⟩
      rw [ev_ren hc.1.2, ev_ren hc.2, hk]
      simp only [EV.ren, appendZ, if_pos hle]
      rw [← e]
      congr 1
      simp only [rows, List.map_replicate, closed_rens hc.1.1]
    · cases h
  · cases h
 case strb x =>
  rw [ev_ren hc]
  split at h
  · rename_i s hx; cases h; exact ⟨_, by simp only [textOf_ren S hx, EV.ren], S⟩
  · cases h
 case byts x =>
  rw [ev_ren hc]
  split at h
  · rename_i s hx; cases h; exact ⟨_, by simp only [hx, EV.ren], S⟩
  · cases h
 case bwr x s =>
  rw [ev_ren hc.1, ev_ren hc.2]
  unfold bwrite at h
  split at h
  · rename_i id t hx hs
    rw [hx, hs]
    split at h
    · rename_i b hb
      split at h
      · rename_i hl
        cases h
        have hg := S.get _ _ hb
        refine ⟨_, by simp only [EV.ren, bwrite, hg, Obj.ren, if_pos (show b.size + t.size ≤ 140737488355328 ∧ h2.lim ≤ ρ id from ⟨hl.1, S.lim _ hl.2⟩), EV.rens], S.set (o := .bld (some (b ++ t))) (fun l q => by cases q)⟩
      · cases h
    · cases h
  · cases h
 case bstr x =>
  rw [ev_ren hc]
  unfold btext at h
  split at h
  · rename_i id hx
    rw [hx]
    split at h
    · rename_i b hb
      split at h
      · rename_i hl
        cases h
        have hg := S.get _ _ hb
        refine ⟨_, by simp only [EV.ren, btext, hg, Obj.ren, if_pos (show b.size ≠ 0 ∧ h2.lim ≤ ρ id from ⟨hl.1, S.lim _ hl.2⟩)], S.set (o := .bld none) (fun l q => by cases q)⟩
      · cases h
    · cases h
  · cases h
 case mnth m i =>
  rw [ev_ren hc.1, ev_ren hc.2]
  split at h
  · rename_i u hx
    cases h
    have : mapNth ((m.ev fr).ren ρ) ((i.ev fr).ren ρ) h2 = some (v.ren ρ) := mapNth_ren S hx
    rw [this]
    exact ⟨h2, rfl, S⟩
  · cases h
 case may x args =>
  rw [ev_ren hc.1, evs_ren hc.2]
  split at h
  · rename_i f a b hx
    have := hC ρ _ _ _ _ _ _ h S
    simpa only [hx, EV.ren, rens_map, List.map_append, List.map_cons, List.map_nil, pagm] using this
  · cases h
 case call f args =>
  rw [evs_ren hc]
  exact hC ρ _ _ _ _ _ _ h S
 case callv x args =>
  rw [ev_ren hc.1, evs_ren hc.2]
  split at h
  · rename_i f a b hx
    have := hC ρ _ _ _ _ _ _ h S
    simpa only [hx, EV.ren, rens_map, List.map_append] using this
  · rename_i id hx
    have := hC ρ _ _ _ _ _ _ h S
    simpa only [hx, EV.ren, rndVs, List.map_cons] using this
  · cases h
theorem runOp_ren {C : CallFn} (hC : RenC C) (S : Sh ρ h1 h2) {op : DOp} (hc : op.cl = true) {fr : Fr} {v : EV} {h1' : Hp} (h : runOp C op fr h1 = some (v, h1')) : ∃ h2', runOp C op (fr.ren ρ) h2 = some (v.ren ρ, h2') ∧ Sh ρ h1' h2' := by
 unfold runOp at *
 split at h
 · simp only [Option.map_eq_some_iff] at h ⊢
   obtain ⟨u, e, e2⟩ := h
   cases e2
   exact ⟨h2, ⟨_, look_ren S hc e, rfl⟩, S⟩
 · exact make_ren S hc h
 · exact act_ren hC S hc h
mutual
theorem eqb_refl : ∀ v : EV, EV.eqb v v = true → EV.eqb (v.ren ρ) (v.ren ρ) = true
 | .p x, h => by simp [EV.eqb, EV.ren]
 | .full x, h => by simp [EV.eqb, EV.ren]
 | .arr .., h => by simp [EV.eqb, EV.ren]
 | .ptr .., h => by simp [EV.eqb, EV.ren]
 | .sub .., h => by simp [EV.eqb, EV.ren]
 | .nilp, h => by simp [EV.eqb, EV.ren]
 | .cp a n, h => by simp [EV.eqb, EV.ren]
 | .fn f a b, h => by
  simp only [EV.eqb, Bool.and_eq_true] at h
  simp [EV.eqb, EV.ren, eqbs_refl a h.1.2, eqbs_refl b h.2]
 | .nilf, h => by simp [EV.eqb, EV.ren]
 | .map _, h => by simp [EV.eqb, EV.ren]
 | .nilmap, h => by simp [EV.eqb, EV.ren]
 | .bld _, h => by simp [EV.eqb, EV.ren]
 | .yld _, h => by simp [EV.eqb, EV.ren]
 | .iface t a, h => by
  simp only [EV.eqb, Bool.and_eq_true] at h
  simp [EV.eqb, EV.ren, eqb_refl a h.2]
 | .nili, h => by simp [EV.eqb, EV.ren]
 | .agg a, h => by
  simp only [EV.eqb] at h
  simp [EV.eqb, EV.ren, eqbs_refl a h]
 | .tup a, h => by
  simp only [EV.eqb] at h
  simp [EV.eqb, EV.ren, eqbs_refl a h]
 | .junk, h => by simp [EV.eqb] at h
theorem eqbs_refl : ∀ v : List EV, EV.eqbs v v = true → EV.eqbs (EV.rens ρ v) (EV.rens ρ v) = true
 | [], h => by simp [EV.eqbs, EV.rens]
 | a :: r, h => by
  simp only [EV.eqbs, Bool.and_eq_true] at h
  simp [EV.eqbs, EV.rens, eqb_refl a h.1, eqbs_refl r h.2]
end
theorem guardVal_ren (v : EV) (w : Bool) : guardVal (v.ren ρ) w = guardVal v w := by
 cases v with
 | tup vs => cases vs <;> rfl
 | p x => rfl
 | _ => rfl
theorem still_ren (S : Sh ρ h1 h2) {fr : Fr} : ∀ {l : List Chk}, (l.all fun c => c.2.1.cl) = true → still fr h1 l = true → still (fr.ren ρ) h2 l = true
 | [], _, _ => rfl
 | (d, op, gd) :: r, hc, h => by
  simp only [List.all_cons, Bool.and_eq_true] at hc
  simp only [still, Bool.and_eq_true, Bool.or_eq_true] at h ⊢
  refine ⟨?_, still_ren S hc.2 h.2⟩
  rcases h.1 with q | q
  · refine .inl ?_
    cases gd with
    | none => exact q
    | some g => obtain ⟨g, w⟩ := g; simp only [get_ren, guardVal_ren]; exact q
  · refine .inr ?_
    cases hl : look op fr h1 with
    | none => rw [hl] at q; cases q
    | some v =>
     rw [hl] at q
     have e := EV.eqb_eq _ _ q
     rw [look_ren S hc.1 hl, get_ren]
     rw [e] at q ⊢
     exact eqb_refl _ q
theorem runStep_ren {C : CallFn} (hC : RenC C) (S : Sh ρ h1 h2) {s : Step} (hc : s.cl = true) {fr fr' : Fr} {h1' : Hp} (h : runStep C s fr h1 = some (fr', h1')) : ∃ h2', runStep C s (fr.ren ρ) h2 = some (fr'.ren ρ, h2') ∧ Sh ρ h1' h2' := by
 simp only [Step.cl, Bool.and_eq_true] at hc
 have go : ∀ {fr' h1'}, (match runOp C s.op fr h1 with | some (v, h') => if still fr h' s.chk then some (fr.put s.dst v, h') else none | none => none) = some (fr', h1') → ∃ h2', (match runOp C s.op (fr.ren ρ) h2 with | some (v, h') => if still (fr.ren ρ) h' s.chk then some ((fr.ren ρ).put s.dst v, h') else none | none => none) = some (fr'.ren ρ, h2') ∧ Sh ρ h1' h2' := by
  intro fr' h1' h
  split at h
  · rename_i v q hr
    split at h
    · rename_i hs
      cases h
      obtain ⟨h2', e, S'⟩ := runOp_ren hC S hc.1 hr
      exact ⟨h2', by rw [e]; simp only [still_ren S' hc.2 hs, if_true, put_ren], S'⟩
    · cases h
  · cases h
 unfold runStep at h ⊢
 simp only at h ⊢
 cases hg : s.guard with
 | none =>
  rw [hg] at h
  exact go h
 | some g =>
  obtain ⟨g, w⟩ := g
  rw [hg] at h
  simp only [get_ren, guardVal_ren] at h ⊢
  cases hv : guardVal (fr.get g) w with
  | none => rw [hv] at h; cases h
  | some b =>
   rw [hv] at h
   cases b with
   | true => exact go h
   | false =>
    cases h
    refine ⟨h2, ?_, S⟩
    have := put_ren (ρ := ρ) fr s.dst (.tup [])
    simp only [EV.ren, EV.rens] at this
    rw [← this]
theorem runSteps_ren {C : CallFn} (hC : RenC C) : ∀ {l : List Step} (_ : l.all Step.cl = true) {fr fr' : Fr} {h1 h2 h1' : Hp} (_ : Sh ρ h1 h2) (_ : runSteps C l fr h1 = some (fr', h1')), ∃ h2', runSteps C l (fr.ren ρ) h2 = some (fr'.ren ρ, h2') ∧ Sh ρ h1' h2'
 | [], _, fr, fr', h1, h2, h1', S, h => by cases h; exact ⟨h2, rfl, S⟩
 | s :: l, hc, fr, fr', h1, h2, h1', S, h => by
  simp only [List.all_cons, Bool.and_eq_true] at hc
  simp only [runSteps] at h ⊢
  split at h
  · rename_i fr1 q hr
    obtain ⟨h3, e, S'⟩ := runStep_ren hC S hc.1 hr
    obtain ⟨h4, e2, S2⟩ := runSteps_ren hC hc.2 S' h
    exact ⟨h4, by rw [e]; exact e2, S2⟩
  · cases h
def RenX (f : St → Option Out) : Prop := ∀ (ρ : Nat → Nat) fr h1 h2 x fr' h1', f (fr, h1) = some (x, fr', h1') → Sh ρ h1 h2 → ∃ h2', f (fr.ren ρ, h2) = some (x, fr'.ren ρ, h2') ∧ Sh ρ h1' h2'
theorem mask_ren (keep : List Nat) (fr : Fr) : (keep.map fun k => (k, (fr.ren ρ).get k)) = Fr.ren ρ (keep.map fun k => (k, fr.get k)) := by
 simp only [Fr.ren, List.map_map]
 refine List.map_congr_left fun k _ => ?_
 simp only [Function.comp]
 rw [← get_ren]; rfl
theorem roundsN_ren {f : St → Option Out} (hf : RenX f) (keep : List Nat) : ∀ n, RenX (roundsN f keep n)
 | 0 => fun ρ fr h1 h2 x fr' h1' h => by cases h
 | n + 1 => fun ρ fr h1 h2 x fr' h1' h S => by
  simp only [roundsN] at h ⊢
  rw [mask_ren]
  split at h
  · rename_i fr1 h3 he
    obtain ⟨h4, e, S'⟩ := hf ρ _ _ _ _ _ _ he S
    simp only [e]
    exact roundsN_ren hf keep n ρ _ _ _ _ _ _ h S'
  · rename_i hne
    obtain ⟨h4, e, S'⟩ := hf ρ _ _ _ _ _ _ h S
    refine ⟨h4, ?_, S'⟩
    simp only [e]
    split
    · rename_i q; cases q; exact (hne _ _ h).elim
    · rfl
theorem exec_ren {C : CallFn} (hC : RenC C) : ∀ (d : DC), d.cl = true → RenX (exec C d) := by
 intro d
 induction d with
 | skip => intro hc ρ fr h1 h2 x fr' h1' h S; cases h; exact ⟨h2, rfl, S⟩
 | ops l =>
  intro hc ρ fr h1 h2 x fr' h1' h S
  simp only [exec] at h ⊢
  split at h
  · rename_i fr1 q hr
    cases h
    obtain ⟨h3, e, S'⟩ := runSteps_ren hC hc S hr
    exact ⟨h3, by rw [e], S'⟩
  · cases h
 | seq a b iha ihb =>
  intro hc ρ fr h1 h2 x fr' h1' h S
  simp only [DC.cl, Bool.and_eq_true] at hc
  simp only [exec] at h ⊢
  split at h
  · rename_i fr1 q he
    obtain ⟨h3, e, S'⟩ := iha hc.1 ρ _ _ _ _ _ _ he S
    simp only [e]
    exact ihb hc.2 ρ _ _ _ _ _ _ h S'
  · rename_i hne
    obtain ⟨h3, e, S'⟩ := iha hc.1 ρ _ _ _ _ _ _ h S
    refine ⟨h3, ?_, S'⟩
    simp only [e]
    split
    · rename_i q; cases q; exact (hne _ _ h).elim
    · rfl
 | cond y a b iha ihb =>
  intro hc ρ fr h1 h2 x fr' h1' h S
  simp only [DC.cl, Bool.and_eq_true] at hc
  simp only [exec] at h ⊢
  rw [ev_ren hc.1.1]
  split at h
  · rename_i t ht
    simp only [ht, EV.ren]
    cases t with
    | true => exact iha hc.1.2 ρ _ _ _ _ _ _ h S
    | false => exact ihb hc.2 ρ _ _ _ _ _ _ h S
  · cases h
 | block id c ih =>
  intro hc ρ fr h1 h2 x fr' h1' h S
  simp only [exec] at h ⊢
  split at h
  · rename_i i fr1 q he
    obtain ⟨h3, e, S'⟩ := ih hc ρ _ _ _ _ _ _ he S
    simp only [e]
    split at h
    · rename_i hi; cases h; exact ⟨h3, by rw [if_pos hi], S'⟩
    · rename_i hi; cases h; exact ⟨h3, by rw [if_neg hi], S'⟩
  · rename_i hne
    obtain ⟨h3, e, S'⟩ := ih hc ρ _ _ _ _ _ _ h S
    refine ⟨h3, ?_, S'⟩
    simp only [e]
    split
    · rename_i q; cases q; exact (hne _ _ _ h).elim
    · rfl
 | loop keep c ih =>
  intro hc ρ fr h1 h2 x fr' h1' h S
  simp only [exec] at h ⊢
  obtain ⟨n, hn⟩ := rounds_iff.1 h
  obtain ⟨h3, e, S'⟩ := roundsN_ren (ih hc) keep n ρ _ _ _ _ _ _ hn S
  exact ⟨h3, rounds_iff.2 ⟨n, e⟩, S'⟩
 | exit id => intro hc ρ fr h1 h2 x fr' h1' h S; cases h; exact ⟨h2, rfl, S⟩
 | ret => intro hc ρ fr h1 h2 x fr' h1' h S; cases h; exact ⟨h2, rfl, S⟩
 | range ps keep y a b iha ihb =>
  intro hc ρ fr h1 h2 x fr' h1' h S
  simp only [DC.cl, Bool.and_eq_true] at hc
  simp only [exec] at h ⊢
  rw [ev_ren hc.1.1]
  split at h
  · rename_i f u v hx
    simp only [hx, EV.ren, rens_map]
    split at h
    · rename_i w q he
      have S0 := S.new (o := .loop ⟨ps, a, b, keep.map fun k => (k, fr.get k), .ready⟩) fun l e => by cases e; exact ⟨hc.1.2, hc.2⟩
      obtain ⟨h3, e, S'⟩ := hC ρ _ _ _ _ _ _ he S0
      simp only [List.map_append, List.map_cons, List.map_nil, EV.ren, S.last, Obj.ren, LoopO.ren, ← mask_ren] at e
      rw [e]
      split at h
      · rename_i l hl
        have := S'.get _ _ hl
        rw [S.last] at this
        simp only [this, Obj.ren, LoopO.ren]
        split at h
        · rename_i ee hee
          cases h
          refine ⟨_, rfl, ?_⟩
          have S2 := S'.set (i := h1.objs.length) (o := .loop { l with st := .over }) fun l' e' => by cases e'; exact S'.code _ l hl
          rw [S.last] at S2
          exact S2
        · cases h
      · cases h
    · cases h
  · cases h
end Dk
namespace Dk
open Go
variable {ρ : Nat → Nat} {h1 h2 : Hp}
theorem fullV_ren (f : Bool) (x : PD) : (fullV f x).ren ρ = fullV f x := by
 unfold fullV
 split <;> simp [EV.ren]
mutual
theorem shareV_ren {l2 : Nat} : ∀ (lim : Nat) (e : EV) (os : List Dk.Obj) (r : EV) (os' : List Dk.Obj), shareV lim e os = some (r, os') → ∀ os2, ShO ρ lim l2 os os2 → ∃ os2', shareV l2 (e.ren ρ) os2 = some (r.ren ρ, os2') ∧ ShO ρ lim l2 os' os2'
 | lim, .arr id gn sz off len f, os, r, os', h, os2, S => by
  simp only [shareV] at h
  cases hs : shareC lim 8 (.arr id gn sz off len f) os with
  | none => simp [hs] at h
  | some x =>
   obtain ⟨x, os1⟩ := x
   simp [hs] at h
   obtain ⟨rfl, rfl⟩ := h
   obtain ⟨os3, e1, S1⟩ := shareC_ren lim 8 _ os x os1 hs os2 S
   refine ⟨os3, ?_, S1⟩
   simp only [EV.ren] at e1 ⊢
   simp [shareV, e1, fullV_ren]
 | lim, .agg cs, os, r, os', h, os2, S => by
  simp only [shareV] at h
  cases hs : shareVs lim cs os with
  | none => simp [hs] at h
  | some x =>
   obtain ⟨x, os1⟩ := x
   simp [hs] at h
   obtain ⟨rfl, rfl⟩ := h
   obtain ⟨os3, e1, S1⟩ := shareVs_ren lim cs os x os1 hs os2 S
   exact ⟨os3, by simp only [EV.ren, shareV, rens_map, e1]; rfl, S1⟩
 | lim, .p x, os, r, os', h, os2, S => by simp [shareV] at h; obtain ⟨rfl, rfl⟩ := h; exact ⟨os2, by simp [shareV, EV.ren], S⟩
 | lim, .full x, os, r, os', h, os2, S => by simp [shareV] at h; obtain ⟨rfl, rfl⟩ := h; exact ⟨os2, by simp [shareV, EV.ren], S⟩
 | lim, .ptr .., os, r, os', h, os2, S => by simp [shareV] at h; obtain ⟨rfl, rfl⟩ := h; exact ⟨os2, by simp [shareV, EV.ren], S⟩
 | lim, .sub .., os, r, os', h, os2, S => by simp [shareV] at h; obtain ⟨rfl, rfl⟩ := h; exact ⟨os2, by simp [shareV, EV.ren], S⟩
 | lim, .nilp, os, r, os', h, os2, S => by simp [shareV] at h; obtain ⟨rfl, rfl⟩ := h; exact ⟨os2, by simp [shareV, EV.ren], S⟩
 | lim, .cp .., os, r, os', h, os2, S => by simp [shareV] at h; obtain ⟨rfl, rfl⟩ := h; exact ⟨os2, by simp [shareV, EV.ren], S⟩
 | lim, .fn .., os, r, os', h, os2, S => by simp [shareV] at h; obtain ⟨rfl, rfl⟩ := h; exact ⟨os2, by simp [shareV, EV.ren], S⟩
 | lim, .nilf, os, r, os', h, os2, S => by simp [shareV] at h; obtain ⟨rfl, rfl⟩ := h; exact ⟨os2, by simp [shareV, EV.ren], S⟩
 | lim, .map _, os, r, os', h, os2, S => by simp [shareV] at h; obtain ⟨rfl, rfl⟩ := h; exact ⟨os2, by simp [shareV, EV.ren], S⟩
 | lim, .nilmap, os, r, os', h, os2, S => by simp [shareV] at h; obtain ⟨rfl, rfl⟩ := h; exact ⟨os2, by simp [shareV, EV.ren], S⟩
 | lim, .yld _, os, r, os', h, os2, S => by simp [shareV] at h; obtain ⟨rfl, rfl⟩ := h; exact ⟨os2, by simp [shareV, EV.ren], S⟩
 | lim, .bld _, os, r, os', h, os2, S => by simp [shareV] at h; obtain ⟨rfl, rfl⟩ := h; exact ⟨os2, by simp [shareV, EV.ren], S⟩
 | lim, .iface .., os, r, os', h, os2, S => by simp [shareV] at h; obtain ⟨rfl, rfl⟩ := h; exact ⟨os2, by simp [shareV, EV.ren], S⟩
 | lim, .nili, os, r, os', h, os2, S => by simp [shareV] at h; obtain ⟨rfl, rfl⟩ := h; exact ⟨os2, by simp [shareV, EV.ren], S⟩
 | lim, .tup _, os, r, os', h, os2, S => by simp [shareV] at h; obtain ⟨rfl, rfl⟩ := h; exact ⟨os2, by simp [shareV, EV.ren], S⟩
 | lim, .junk, os, r, os', h, os2, S => by simp [shareV] at h; obtain ⟨rfl, rfl⟩ := h; exact ⟨os2, by simp [shareV, EV.ren], S⟩
theorem shareVs_ren {l2 : Nat} : ∀ (lim : Nat) (es : List EV) (os : List Dk.Obj) (rs : List EV) (os' : List Dk.Obj), shareVs lim es os = some (rs, os') → ∀ os2, ShO ρ lim l2 os os2 → ∃ os2', shareVs l2 (es.map (EV.ren ρ)) os2 = some (rs.map (EV.ren ρ), os2') ∧ ShO ρ lim l2 os' os2'
 | lim, [], os, rs, os', h, os2, S => by simp [shareVs] at h; obtain ⟨rfl, rfl⟩ := h; exact ⟨os2, by simp [shareVs], S⟩
 | lim, e :: r, os, rs, os', h, os2, S => by
  simp only [shareVs] at h
  split at h
  · rename_i x os1 hx
    obtain ⟨os3, e1, S1⟩ := shareV_ren lim e os x os1 hx os2 S
    split at h
    · rename_i xs os4 hr
      obtain ⟨os5, e2, S2⟩ := shareVs_ren lim r os1 xs os4 hr os3 S1
      simp only [Option.some.injEq, Prod.mk.injEq] at h
      obtain ⟨rfl, rfl⟩ := h
      exact ⟨os5, by simp only [List.map_cons, shareVs, e1, e2], S2⟩
    · cases h
  · cases h
end
theorem resultsOf_ren (S : Sh ρ h1 h2) {fr : Fr} : ∀ {l : List Res} {vs : List EV}, resultsOf fr h1 l = some vs → resultsOf (fr.ren ρ) h2 l = some (vs.map (EV.ren ρ))
 | [], vs, h => by simp only [resultsOf] at h; cases h; rfl
 | r :: rs, vs, h => by
  simp only [resultsOf] at h
  split at h
  · rename_i v hv
    split at h
    · rename_i ws hw
      cases h
      have e : resultOf (fr.ren ρ) h2 r = some (v.ren ρ) := by
       cases r with
       | tmp t => simp only [resultOf] at hv ⊢; cases hv; rw [get_ren]
       | cell t ag n => simp only [resultOf] at hv ⊢; rw [get_ren]; exact loadAt_ren S hv
      simp only [resultsOf, e, resultsOf_ren S hw, List.map_cons]
    · cases h
  · cases h
theorem oneEV_ren (vs : List EV) : oneEV (vs.map (EV.ren ρ)) = (oneEV vs).ren ρ := by
 match vs with
 | [] => simp [oneEV, EV.ren, EV.rens]
 | [v] => simp [oneEV]
 | v :: w :: r => simp [oneEV, EV.ren, rens_map]
mutual
theorem under_ren {n m : Nat} (hn : ∀ i, i < n → ρ i < m) : ∀ v : EV, EV.under n v = true → EV.under m (v.ren ρ) = true
 | .p _, h => rfl
 | .full _, h => rfl
 | .arr .., h => by simp only [EV.under, EV.ren, decide_eq_true_eq] at *; exact hn _ h
 | .ptr .., h => by simp only [EV.under, EV.ren, decide_eq_true_eq] at *; exact hn _ h
 | .sub .., h => by simp only [EV.under, EV.ren, decide_eq_true_eq] at *; exact hn _ h
 | .nilp, h => rfl
 | .cp .., h => rfl
 | .fn f a b, h => by
  simp only [EV.under, EV.ren, Bool.and_eq_true] at *
  exact ⟨unders_ren hn a h.1, unders_ren hn b h.2⟩
 | .nilf, h => rfl
 | .map _, h => by simp only [EV.under, EV.ren, decide_eq_true_eq] at *; exact hn _ h
 | .nilmap, h => rfl
 | .yld _, h => by simp only [EV.under, EV.ren, decide_eq_true_eq] at *; exact hn _ h
 | .bld _, h => by simp only [EV.under, EV.ren, decide_eq_true_eq] at *; exact hn _ h
 | .iface t v, h => by simp only [EV.under, EV.ren] at *; exact under_ren hn v h
 | .nili, h => rfl
 | .agg cs, h => by simp only [EV.under, EV.ren] at *; exact unders_ren hn cs h
 | .tup cs, h => by simp only [EV.under, EV.ren] at *; exact unders_ren hn cs h
 | .junk, h => rfl
theorem unders_ren {n m : Nat} (hn : ∀ i, i < n → ρ i < m) : ∀ v : List EV, EV.unders n v = true → EV.unders m (EV.rens ρ v) = true
 | [], h => rfl
 | a :: r, h => by
  simp only [EV.unders, EV.rens, Bool.and_eq_true] at *
  exact ⟨under_ren hn a h.1, unders_ren hn r h.2⟩
end
theorem args0_ren : ∀ (k : Nat) (l : List EV), args0 k (l.map (EV.ren ρ)) = Fr.ren ρ (args0 k l)
 | _, [] => rfl
 | k, v :: r => by
  have := args0_ren (k + 1) r
  simp only [List.map_cons, args0, this]
  rfl
theorem Sh.loc (S : Sh ρ h1 h2) : Sh ρ { h1 with lim := h1.objs.length } { h2 with lim := h2.objs.length } :=
 ⟨S.get, S.up, fun i hi => by
  have := S.up (i - h1.objs.length)
  simp only at hi ⊢
  rw [show h1.objs.length + (i - h1.objs.length) = i by omega] at this
  omega, S.inj, S.code⟩
theorem body0_ren {C : CallFn} (hC : RenC C) {d : DFn} (hc : d.body.cl = true) (S : Sh ρ h1 h2) {args : List EV} {v : EV} {h1' : Hp} (h : body0 C d args h1 = some (v, h1')) : ∃ h2', body0 C d (args.map (EV.ren ρ)) h2 = some (v.ren ρ, h2') ∧ Sh ρ h1' h2' := by
 unfold body0 at h
 split at h
 · rename_i hn
   unfold body0
   rw [List.length_map, if_pos hn, args0_ren]
   have S0 : Sh ρ (if d.loc then { h1 with lim := h1.objs.length } else h1) (if d.loc then { h2 with lim := h2.objs.length } else h2) := by
    cases d.loc with
    | true => exact S.loc
    | false => exact S
   split at h
   · cases h
   · rename_i x fr q hne hx
     obtain ⟨q2, e, S1⟩ := exec_ren hC _ hc ρ _ _ _ _ _ _ hx S0
     rw [e]
     have hfin : (match resultsOf (fr.ren ρ) q2 d.res with
      | none => none
      | some vs => match (if d.share then shareVs q2.lim vs q2.objs else some (vs, q2.objs)) with
       | none => none
       | some (vs, os) =>
        let v : EV := oneEV vs
        if d.loc then if EV.under h2.objs.length v = true then some (v, h2) else none
        else some (v, { objs := os, lim := h2.lim })) = some (v.ren ρ, if d.loc then h2 else ⟨(match resultsOf (fr.ren ρ) q2 d.res with
         | some vs => match (if d.share then shareVs q2.lim vs q2.objs else some (vs, q2.objs)) with
          | some (_, os) => os
          | none => []
         | none => []), h2.lim⟩) ∧ Sh ρ h1' (if d.loc then h2 else ⟨(match resultsOf (fr.ren ρ) q2 d.res with
         | some vs => match (if d.share then shareVs q2.lim vs q2.objs else some (vs, q2.objs)) with
          | some (_, os) => os
          | none => []
         | none => []), h2.lim⟩) := by
      split at h
      · cases h
      · rename_i vs hvs
        have hvs2 := resultsOf_ren S1 hvs
        rw [hvs2]
        simp only
        split at h
        · cases h
        · rename_i ws os hsh
          have key : ∃ os2, (if d.share then shareVs q2.lim (vs.map (EV.ren ρ)) q2.objs else some (vs.map (EV.ren ρ), q2.objs)) = some (ws.map (EV.ren ρ), os2) ∧ ShO ρ q.lim q2.lim os os2 := by
           cases hs : d.share with
           | false =>
            rw [hs] at hsh
            cases hsh
            exact ⟨_, rfl, S1⟩
           | true =>
            rw [hs] at hsh
            simp only [if_true] at hsh ⊢
            exact shareVs_ren _ _ _ _ _ hsh _ S1
          obtain ⟨os2, k1, k2⟩ := key
          rw [k1]
          simp only [oneEV_ren]
          cases hl : d.loc with
          | true =>
           rw [hl] at h
           simp only [if_true] at h ⊢
           split at h
           · rename_i hu
             cases h
             rw [if_pos (under_ren (fun i hi => (List.getElem?_eq_some_iff.1 (S.get i _ (List.getElem?_eq_getElem hi))).1) _ hu)]
             exact ⟨rfl, S⟩
           · cases h
          | false =>
           rw [hl] at h
           simp only [Bool.false_eq_true, if_false] at h ⊢
           cases h
           exact ⟨rfl, k2.get, k2.up, S.lim, k2.inj, k2.code⟩
     refine ⟨_, ?_, hfin.2⟩
     rw [← hfin.1]
     cases x with
     | exit i => exact (hne i rfl).elim
     | normal => rfl
     | ret => rfl
   · cases h
 · cases h
theorem body_ren {C : CallFn} (hC : RenC C) {d : DFn} (hc : d.body.cl = true) (S : Sh ρ h1 h2) {args : List EV} {v : EV} {h1' : Hp} (h : body C d args h1 = some (v, h1')) : ∃ h2', body C d (args.map (EV.ren ρ)) h2 = some (v.ren ρ, h2') ∧ Sh ρ h1' h2' := by
 unfold body shareArgs at *
 cases hs : d.sha with
 | false =>
  rw [hs] at h
  exact body0_ren hC hc S h
 | true =>
  rw [hs] at h
  simp only [if_true] at h ⊢
  cases hv : shareVs h1.lim args h1.objs with
  | none => rw [hv] at h; cases h
  | some x =>
   obtain ⟨as, os⟩ := x
   rw [hv] at h
   obtain ⟨os2, e, S1⟩ := shareVs_ren (ρ := ρ) (l2 := h2.lim) _ _ _ _ _ hv h2.objs S
   rw [e]
   exact body0_ren hC hc S1 h
theorem fold_ren (l : List (Nat × EV)) (fr : Fr) : (l.map fun p => (p.1, p.2.ren ρ)).foldl (fun fr p => p :: fr) (fr.ren ρ) = Fr.ren ρ (l.foldl (fun fr p => p :: fr) fr) := by
 induction l generalizing fr with
 | nil => rfl
 | cons p l ih =>
  simp only [List.map_cons, List.foldl_cons]
  exact ih (p :: fr)
theorem roundC_ren {C : CallFn} (hC : RenC C) (S : Sh ρ h1 h2) {args : List EV} {v : EV} {h1' : Hp} (h : roundC C args h1 = some (v, h1')) : ∃ h2', roundC C (args.map (EV.ren ρ)) h2 = some (v.ren ρ, h2') ∧ Sh ρ h1' h2' := by
 obtain ⟨z, as, l, fr, h3, l1, ex, fr2, h4, l2, rfl, b1, b2, ⟨b3, b3'⟩, b4, b5, b6, b7, b8, hr⟩ := roundC_some h
 cases hr
 have c1 := S.code _ _ b1
 obtain ⟨k1, e1, S1⟩ := exec_ren hC _ c1.1 ρ _ _ _ _ _ _ b4 S
 have c2 := S1.code _ _ b5
 have S2 := S1.set (i := z) (o := .loop { l1 with st := .busy }) fun l' e => by cases e; exact c2
 obtain ⟨k2, e2, S3⟩ := exec_ren hC _ c1.2 ρ _ _ _ _ _ _ b7 S2
 have c3 := S3.code _ _ b8
 refine ⟨_, ?_, S3.set (i := z) (o := .loop { l2 with st := if ex = .normal then .ready else .done ex }) fun l' e => by cases e; exact c3⟩
 have hz : (l.ps.zip (as.map (EV.ren ρ))) = (l.ps.zip as).map fun p => (p.1, p.2.ren ρ) := by
  rw [List.zip_map_right]
  rfl
 have key := roundC_of (C := C) (z := ρ z) (as := as.map (EV.ren ρ)) (h := h2) (l := l.ren ρ) (fr := fr.ren ρ) (h1 := k1) (l1 := l1.ren ρ) (ex := ex) (fr2 := fr2.ren ρ) (h2 := k2) (l2 := l2.ren ρ)
  (S.get _ _ b1) b2 ⟨by rw [List.length_map]; exact b3, S.lim _ b3'⟩ (by
   simp only [LoopO.ren]
   rw [hz, fold_ren]
   exact e1) (S1.get _ _ b5) b6 e2 (S3.get _ _ b8)
 exact key
def progCl (l : List (Nat × DFn)) : Bool := l.all fun p => p.2.body.cl
theorem progCl_get : ∀ {l : List (Nat × DFn)}, progCl l = true → ∀ {f d}, progOf l f = some d → d.body.cl = true
 | [], _, f, d, h => by cases h
 | (n, e) :: r, hc, f, d, h => by
  simp only [progCl, List.all_cons, Bool.and_eq_true] at hc
  simp only [progOf] at h
  split at h
  · cases h; exact hc.1
  · exact progCl_get (by simpa [progCl] using hc.2) h
theorem callN_ren {l : List (Nat × DFn)} (hl : progCl l = true) : ∀ n, RenC (callN (progOf l) noExt n)
 | 0 => fun ρ f args h1 h2 v h1' h => by cases h
 | n + 1 => fun ρ f args h1 h2 v h1' h S => by
  have ih := callN_ren hl n
  rw [callN] at h ⊢
  dsimp only at h ⊢
  split at h
  · rename_i d hd
    exact body_ren ih (progCl_get hl hd) S h
  · split at h
    · rename_i hf
      rw [if_pos hf]
      exact roundC_ren ih S h
    · cases h
theorem call_ren {l : List (Nat × DFn)} (hl : progCl l = true) : RenC (call (progOf l) noExt) := fun ρ f args h1 h2 v h1' h S => by
 obtain ⟨n, hn⟩ := (call_iff noExt_mono).1 h
 obtain ⟨h2', e, S'⟩ := callN_ren hl n ρ _ _ _ _ _ _ hn S
 exact ⟨h2', (call_iff noExt_mono).2 ⟨n, e⟩, S'⟩
theorem Sh.empty (h : Hp) (hl : h.lim ≤ h.objs.length) : Sh (fun i => i + h.objs.length) ⟨[], 0⟩ h :=
 ⟨fun i o e => by simp at e, fun k => by simp; omega, fun i _ => by show h.lim ≤ i + h.objs.length; omega, fun i j e => by simp at e; exact e, fun i l e => by simp at e⟩
theorem body0_loc {C : CallFn} {d : DFn} (hloc : d.loc = true) {args : List EV} {h h' : Hp} {v : EV} (e : body0 C d args h = some (v, h')) : h' = h := by
 unfold body0 at e
 split at e
 · split at e
   · cases e
   · split at e
     · cases e
     · split at e
       · cases e
       · simp only [hloc, if_true] at e
         split at e
         · cases e; rfl
         · cases e
   · cases e
 · cases e
theorem call_same {l : List (Nat × DFn)} {f : Nat} {d : DFn} (hd : progOf l f = some d) (hloc : d.loc = true) (ha : d.sha = false) {args : List EV} {h h' : Hp} {v : EV} (e : call (progOf l) noExt f args h = some (v, h')) : h' = h := by
 obtain ⟨n, hn⟩ := (call_iff noExt_mono).1 e
 cases n with
 | zero => cases hn
 | succ n =>
  rw [callN] at hn
  simp only [hd, body, shareArgs, ha, Bool.false_eq_true, if_false] at hn
  exact body0_loc hloc hn
theorem call_any {l : List (Nat × DFn)} (hl : progCl l = true) {f : Nat} {d : DFn} (hd : progOf l f = some d) (hloc : d.loc = true) (ha : d.sha = false) {args : List EV} (hargs : EV.unders 0 args = true) {v : EV} (hv : EV.under 0 v = true) (e : call (progOf l) noExt f args ⟨[], 0⟩ = some (v, ⟨[], 0⟩))
 {h : Hp} (hh : h.lim ≤ h.objs.length) : call (progOf l) noExt f args h = some (v, h) := by
 obtain ⟨h2, e2, -⟩ := call_ren hl _ _ _ _ _ _ _ e (Sh.empty h hh)
 rw [closed_rens hargs, ren_under _ _ hv] at e2
 rw [call_same hd hloc ha e2] at e2
 exact e2
end Dk
