/- D, third part: calls, pure calls, deferred calls, and regions whose order is drawn. No condition. -/
import Derived.Test.YtalodgghnpnnkaaDoorQk2
import Derived.RecoverIn
import Derived.OrdersIn
import Derived.Orders
set_option linter.unusedVariables false
set_option linter.unusedSimpArgs false
set_option linter.unusedSectionVars false
namespace Dk
open Go Go.RowKit
variable {P : Program}
def Sub (C C' : CallFn) : Prop := ∀ f args h r, C f args h = some r → C' f args h = some r
theorem Sub.refl (C : CallFn) : Sub C C := fun _ _ _ _ h => h
theorem act_mono {C C' : CallFn} (hs : Sub C C') {op : DOp} {fr : Fr} {h : Hp} {r : EV × Hp} (e : act C op fr h = some r) : act C' op fr h = some r := by
 cases op <;> simp only [act] at e ⊢ <;> first | exact e | skip
 case call f args => exact hs _ _ _ _ e
 case may x args =>
  split at e
  · exact hs _ _ _ _ e
  · cases e
 case callv x args =>
  split at e
  · exact hs _ _ _ _ e
  · exact hs _ _ _ _ e
  · cases e
theorem runOp_mono {C C' : CallFn} (hs : Sub C C') {op : DOp} {fr : Fr} {h : Hp} {r : EV × Hp} (e : runOp C op fr h = some r) : runOp C' op fr h = some r := by
 unfold runOp at *
 split at e
 · exact e
 · exact e
 · exact act_mono hs e
theorem runStep_of {C : CallFn} {s : Step} {fr : Fr} {h h1 : Hp} {v : EV} (hg : GuardIs fr s.guard true) (hr : runOp C s.op fr h = some (v, h1)) (hs : still fr h1 s.chk = true) : runStep C s fr h = some (fr.put s.dst v, h1) := by
 unfold runStep
 cases hgd : s.guard with
 | none => simp [hr, hs]
 | some gw =>
  obtain ⟨t, want⟩ := gw
  rw [hgd] at hg
  simp only [GuardIs] at hg
  simp [hg, hr, hs]
theorem runStep_skip {C : CallFn} {s : Step} {fr : Fr} {h : Hp} (hg : GuardIs fr s.guard false) : runStep C s fr h = some (fr.put s.dst (.tup []), h) := by
 unfold runStep
 cases hgd : s.guard with
 | none => rw [hgd] at hg; cases hg
 | some gw =>
  obtain ⟨t, want⟩ := gw
  rw [hgd] at hg
  simp only [GuardIs] at hg
  simp [hg]
theorem runStep_mono {C C' : CallFn} (hs : Sub C C') {s : Step} {fr : Fr} {h : Hp} {r : Fr × Hp} (e : runStep C s fr h = some r) : runStep C' s fr h = some r := by
 obtain ⟨fr1, h1⟩ := r
 rcases runStep_cases e with ⟨hg, v, hr, hst, rfl⟩ | ⟨hg, rfl, rfl⟩
 · exact runStep_of hg (runOp_mono hs hr) hst
 · exact runStep_skip hg
theorem runSteps_mono {C C' : CallFn} (hs : Sub C C') : ∀ {l : List Step} {fr : Fr} {h : Hp} {r : Fr × Hp}, runSteps C l fr h = some r → runSteps C' l fr h = some r
 | [], fr, h, r, e => e
 | s :: l, fr, h, r, e => by
  simp only [runSteps] at e ⊢
  split at e
  · rename_i fr1 h1 hr
    rw [runStep_mono hs hr]
    exact runSteps_mono hs e
  · cases e
theorem roundsN_mono {f f' : St → Option Out} (hf : ∀ s o, f s = some o → f' s = some o) {keep : List Nat} : ∀ {n : Nat} {s : St} {o : Out}, roundsN f keep n s = some o → roundsN f' keep n s = some o
 | 0, s, o, e => by simp [roundsN] at e
 | n + 1, s, o, e => by
  simp only [roundsN] at e ⊢
  split at e
  · rename_i fr h he
    rw [hf _ _ he]
    exact roundsN_mono hf e
  · rename_i hne
    have e' := hf _ _ e
    rw [e']
    split
    · rename_i fr h he
      exact absurd (e.trans (by rw [he])) (hne _ _)
    · rfl
theorem roundsN_succ {f : St → Option Out} {keep : List Nat} : ∀ {n : Nat} {s : St} {o : Out}, roundsN f keep n s = some o → roundsN f keep (n + 1) s = some o
 | 0, s, o, e => by simp [roundsN] at e
 | n + 1, s, o, e => by
  rw [roundsN] at e ⊢
  split at e
  · rename_i fr h he
    exact roundsN_succ e
  · rename_i hne
    exact e
theorem roundsN_le {f : St → Option Out} {keep : List Nat} {n m : Nat} (h : n ≤ m) {s : St} {o : Out} (e : roundsN f keep n s = some o) : roundsN f keep m s = some o := by
 induction h with
 | refl => exact e
 | step _ ih => exact roundsN_succ ih
theorem rounds_iff {f : St → Option Out} {keep : List Nat} {s : St} {o : Out} : rounds f keep s = some o ↔ ∃ n, roundsN f keep n s = some o := by
 unfold rounds
 constructor
 · intro e
   split at e
   · exact ⟨_, e⟩
   · cases e
 · rintro ⟨n, e⟩
   have hex : ∃ n o, roundsN f keep n s = some o := ⟨n, o, e⟩
   rw [dif_pos hex]
   obtain ⟨o', e'⟩ := hex.choose_spec
   have h1 := roundsN_le (Nat.le_max_left n hex.choose) e
   have h2 := roundsN_le (Nat.le_max_right n hex.choose) e'
   rw [h1] at h2
   rw [e', h2]
theorem rounds_next {f : St → Option Out} {keep : List Nat} {s : St} {fr : Fr} {h : Hp} {o : Out} (h1 : f (keep.map fun k => (k, s.1.get k), s.2) = some (.normal, fr, h)) (h2 : rounds f keep (fr, h) = some o) : rounds f keep s = some o := by
 obtain ⟨n, hn⟩ := rounds_iff.1 h2
 refine rounds_iff.2 ⟨n + 1, ?_⟩
 simp only [roundsN, h1]
 exact hn
theorem rounds_done {f : St → Option Out} {keep : List Nat} {s : St} {e : Ex} {fr : Fr} {h : Hp} (he : e ≠ .normal) (h1 : f (keep.map fun k => (k, s.1.get k), s.2) = some (e, fr, h)) : rounds f keep s = some (e, fr, h) := by
 refine rounds_iff.2 ⟨1, ?_⟩
 simp only [roundsN, h1]
 split
 · rename_i h2
   cases h2
   exact absurd rfl he
 · rfl
theorem exec_mono {C C' : CallFn} (hs : Sub C C') : ∀ {d : DC} {s : St} {o : Out}, exec C d s = some o → exec C' d s = some o := by
 intro d
 induction d with
 | skip => intro s o e; exact e
 | ops l =>
  intro s o e
  simp only [exec] at e ⊢
  split at e
  · rename_i fr h hr
    rw [runSteps_mono hs hr]
    exact e
  · cases e
 | seq a b iha ihb =>
  intro s o e
  simp only [exec] at e ⊢
  split at e
  · rename_i fr h ha
    rw [iha ha]
    exact ihb e
  · rename_i hne
    rw [iha e]
    split
    · rename_i fr h he
      exact absurd (e.trans (by rw [he])) (hne _ _)
    · rfl
 | cond x a b iha ihb =>
  intro s o e
  simp only [exec] at e ⊢
  split at e
  · rename_i t ht
    cases t
    · simpa using ihb (by simpa using e)
    · simpa using iha (by simpa using e)
  · cases e
 | block id c ih =>
  intro s o e
  simp only [exec] at e ⊢
  split at e
  · rename_i i fr h he
    rw [ih he]
    exact e
  · rename_i hne
    rw [ih e]
    split
    · rename_i i fr h he
      exact absurd (e.trans (by rw [he])) (hne _ _ _)
    · rfl
 | loop keep c ih =>
  intro s o e
  simp only [exec] at e ⊢
  obtain ⟨n, hn⟩ := rounds_iff.1 e
  exact rounds_iff.2 ⟨n, roundsN_mono (fun s o => ih) hn⟩
 | exit id => intro s o e; exact e
 | ret => intro s o e; exact e
 | range ps keep x a b iha ihb =>
  intro s o e
  simp only [exec] at e ⊢
  split at e
  · rename_i f u v hx
    split at e
    · rename_i rv h hc
      rw [hs _ _ _ _ hc]
      exact e
    · cases e
  · cases e
theorem body0_mono {C C' : CallFn} (hs : Sub C C') {d : DFn} {args : List EV} {h : Hp} {r : EV × Hp} (e : body0 C d args h = some r) : body0 C' d args h = some r := by
 unfold body0 at *
 split at e
 · rename_i hl
   rw [if_pos hl]
   split at e
   · cases e
   · rename_i ex fr h' hne hex
     rw [exec_mono hs hex]
     cases ex with
     | exit i => exact (hne i rfl).elim
     | normal => exact e
     | ret => exact e
   · cases e
 · cases e
theorem body_mono {C C' : CallFn} (hs : Sub C C') {d : DFn} {args : List EV} {h : Hp} {r : EV × Hp} (e : body C d args h = some r) : body C' d args h = some r := by
 unfold body at *
 split at e
 · exact body0_mono hs e
 · cases e
theorem roundC_some {C : CallFn} {args : List EV} {h : Hp} {r : EV × Hp} (e : roundC C args h = some r) :
 ∃ z as l fr h1 l1 ex fr2 h2 l2, args = .p (.agg []) :: .yld z :: as ∧ h.objs[z]? = some (.loop l) ∧ l.st = .ready ∧ (as.length = l.ps.length ∧ h.lim ≤ z) ∧
  exec C l.a ((l.ps.zip as).foldl (fun fr p => p :: fr) l.fr, h) = some (.normal, fr, h1) ∧ h1.objs[z]? = some (.loop l1) ∧ l1.st = .ready ∧
  exec C l.b (fr, { h1 with objs := h1.objs.set z (.loop { l1 with st := .busy }) }) = some (ex, fr2, h2) ∧ h2.objs[z]? = some (.loop l2) ∧
  r = (.p (.bool (decide (ex = .normal))), { h2 with objs := h2.objs.set z (.loop { l2 with st := if ex = .normal then .ready else .done ex }) }) := by
 unfold roundC at e
 split at e
 · rename_i z as
   split at e
   · rename_i l hl
     split at e
     · rename_i hst
       split at e
       · rename_i hlen
         split at e
         · rename_i fr h1 ha
           split at e
           · rename_i l1 hl1
             split at e
             · rename_i hst1
               split at e
               · rename_i ex fr2 h2 hb
                 split at e
                 · rename_i l2 hl2
                   cases e
                   exact ⟨z, as, l, fr, h1, l1, ex, fr2, h2, l2, rfl, hl, hst, hlen, ha, hl1, hst1, hb, hl2, rfl⟩
                 · cases e
               · cases e
             · cases e
           · cases e
         · cases e
       · cases e
     · cases e
   · cases e
 · cases e
theorem roundC_of {C : CallFn} {z : Nat} {as : List EV} {h : Hp} {l : LoopO} {fr : Fr} {h1 : Hp} {l1 : LoopO} {ex : Ex} {fr2 : Fr} {h2 : Hp} {l2 : LoopO} (a1 : h.objs[z]? = some (.loop l)) (a2 : l.st = .ready) (a3 : as.length = l.ps.length ∧ h.lim ≤ z)
 (a4 : exec C l.a ((l.ps.zip as).foldl (fun fr p => p :: fr) l.fr, h) = some (.normal, fr, h1)) (a5 : h1.objs[z]? = some (.loop l1)) (a6 : l1.st = .ready)
 (a7 : exec C l.b (fr, { h1 with objs := h1.objs.set z (.loop { l1 with st := .busy }) }) = some (ex, fr2, h2)) (a8 : h2.objs[z]? = some (.loop l2)) :
 roundC C (.p (.agg []) :: .yld z :: as) h = some (.p (.bool (decide (ex = .normal))), { h2 with objs := h2.objs.set z (.loop { l2 with st := if ex = .normal then .ready else .done ex }) }) := by
 simp only [roundC, a1, a2]
 rw [if_pos a3]
 simp only [a4, a5, a6, a7, a8]
theorem roundC_mono {C C' : CallFn} (hs : Sub C C') {args : List EV} {h : Hp} {r : EV × Hp} (e : roundC C args h = some r) : roundC C' args h = some r := by
 obtain ⟨z, as, l, fr, h1, l1, ex, fr2, h2, l2, rfl, b1, b2, b3, b4, b5, b6, b7, b8, rfl⟩ := roundC_some e
 exact roundC_of b1 b2 b3 (exec_mono hs b4) b5 b6 (exec_mono hs b7) b8
theorem callN_succ {p : Prog} {ext : CallFn → CallFn} (hm : ∀ C C', Sub C C' → Sub (ext C) (ext C')) : ∀ n, Sub (callN p ext n) (callN p ext (n + 1))
 | 0 => fun f args h r e => by simp [callN] at e
 | n + 1 => fun f args h r e => by
  have ih := callN_succ (p := p) hm n
  rw [callN] at e ⊢
  dsimp only at e ⊢
  split at e
  · rename_i d hd
    exact body_mono ih e
  · rename_i hd
    split at e
    · rename_i hf
      rw [if_pos hf]
      exact roundC_mono ih e
    · rename_i hf
      rw [if_neg hf]
      exact hm _ _ ih _ _ _ _ e
theorem callN_le {p : Prog} {ext : CallFn → CallFn} (hm : ∀ C C', Sub C C' → Sub (ext C) (ext C')) {n m : Nat} (h : n ≤ m) : Sub (callN p ext n) (callN p ext m) := by
 induction h with
 | refl => exact Sub.refl _
 | step _ ih => exact fun f args h r e => callN_succ hm _ _ _ _ _ (ih _ _ _ _ e)
theorem call_iff {p : Prog} {ext : CallFn → CallFn} (hm : ∀ C C', Sub C C' → Sub (ext C) (ext C')) {f : Nat} {args : List EV} {h : Hp} {r : EV × Hp} : call p ext f args h = some r ↔ ∃ n, callN p ext n f args h = some r := by
 unfold call
 constructor
 · intro e
   split at e
   · exact ⟨_, e⟩
   · cases e
 · rintro ⟨n, e⟩
   have hex : ∃ n r, callN p ext n f args h = some r := ⟨n, r, e⟩
   rw [dif_pos hex]
   obtain ⟨r', e'⟩ := hex.choose_spec
   have h1 := callN_le hm (Nat.le_max_left n hex.choose) _ _ _ _ e
   have h2 := callN_le hm (Nat.le_max_right n hex.choose) _ _ _ _ e'
   rw [h1] at h2
   rw [e', h2]
structure Rise (S : Nat → CallFn) (C : CallFn) : Prop where
 up : ∀ {n m : Nat}, n ≤ m → Sub (S n) (S m)
 all : ∀ f args h r, C f args h = some r → ∃ n, S n f args h = some r
theorem rise_act {S : Nat → CallFn} {C : CallFn} (R : Rise S C) {op : DOp} {fr : Fr} {h : Hp} {r : EV × Hp} (e : act C op fr h = some r) : ∃ n, act (S n) op fr h = some r := by
 cases op <;> simp only [act] at e ⊢ <;> first | exact ⟨0, e⟩ | skip
 case call f args => exact R.all _ _ _ _ e
 case may x args =>
  split at e
  · exact R.all _ _ _ _ e
  · cases e
 case callv x args =>
  split at e
  · exact R.all _ _ _ _ e
  · exact R.all _ _ _ _ e
  · cases e
theorem rise_op {S : Nat → CallFn} {C : CallFn} (R : Rise S C) {op : DOp} {fr : Fr} {h : Hp} {r : EV × Hp} (e : runOp C op fr h = some r) : ∃ n, runOp (S n) op fr h = some r := by
 unfold runOp at *
 split at e
 · exact ⟨0, e⟩
 · exact ⟨0, e⟩
 · exact rise_act R e
theorem rise_steps {S : Nat → CallFn} {C : CallFn} (R : Rise S C) : ∀ {l : List Step} {fr : Fr} {h : Hp} {r : Fr × Hp}, runSteps C l fr h = some r → ∃ n, runSteps (S n) l fr h = some r
 | [], fr, h, r, e => ⟨0, e⟩
 | s :: l, fr, h, r, e => by
  simp only [runSteps] at e
  split at e
  · rename_i fr1 h1 hr
    obtain ⟨m, hm⟩ := rise_steps R e
    have : ∃ n, runStep (S n) s fr h = some (fr1, h1) := by
     rcases runStep_cases hr with ⟨hg, v, hro, hst, rfl⟩ | ⟨hg, rfl, rfl⟩
     · obtain ⟨n, hn⟩ := rise_op R hro
       exact ⟨n, runStep_of hg hn hst⟩
     · exact ⟨0, runStep_skip hg⟩
    obtain ⟨n, hn⟩ := this
    refine ⟨max n m, ?_⟩
    simp only [runSteps, runStep_mono (R.up (Nat.le_max_left n m)) hn]
    exact runSteps_mono (R.up (Nat.le_max_right n m)) hm
  · cases e
theorem rise_exec {S : Nat → CallFn} {C : CallFn} (R : Rise S C) : ∀ {d : DC} {s : St} {o : Out}, exec C d s = some o → ∃ n, exec (S n) d s = some o := by
 intro d
 induction d with
 | skip => intro s o e; exact ⟨0, e⟩
 | ops l =>
  intro s o e
  simp only [exec] at e
  split at e
  · rename_i fr h hr
    obtain ⟨n, hn⟩ := rise_steps R hr
    exact ⟨n, by simp only [exec, hn]; exact e⟩
  · cases e
 | seq a b iha ihb =>
  intro s o e
  simp only [exec] at e
  split at e
  · rename_i fr h ha
    obtain ⟨n, hn⟩ := iha ha
    obtain ⟨m, hm⟩ := ihb e
    refine ⟨max n m, ?_⟩
    simp only [exec, exec_mono (R.up (Nat.le_max_left n m)) hn]
    exact exec_mono (R.up (Nat.le_max_right n m)) hm
  · rename_i hne
    obtain ⟨n, hn⟩ := iha e
    refine ⟨n, ?_⟩
    simp only [exec, hn]
    split
    · rename_i fr h he
      exact absurd (e.trans (by rw [he])) (hne _ _)
    · rfl
 | cond x a b iha ihb =>
  intro s o e
  simp only [exec] at e
  split at e
  · rename_i t ht
    cases t
    · obtain ⟨n, hn⟩ := ihb (by simpa using e)
      exact ⟨n, by simp [exec, ht, hn]⟩
    · obtain ⟨n, hn⟩ := iha (by simpa using e)
      exact ⟨n, by simp [exec, ht, hn]⟩
  · cases e
 | block id c ih =>
  intro s o e
  simp only [exec] at e
  split at e
  · rename_i i fr h he
    obtain ⟨n, hn⟩ := ih he
    exact ⟨n, by simp only [exec, hn]; exact e⟩
  · rename_i hne
    obtain ⟨n, hn⟩ := ih e
    refine ⟨n, ?_⟩
    simp only [exec, hn]
    split
    · rename_i i fr h he
      exact absurd (e.trans (by rw [he])) (hne _ _ _)
    · rfl
 | loop keep c ih =>
  intro s o e
  simp only [exec] at e
  obtain ⟨k, hk⟩ := rounds_iff.1 e
  clear e
  have key : ∀ (k : Nat) (s : St) (o : Out), roundsN (exec C c) keep k s = some o → ∃ n, roundsN (exec (S n) c) keep k s = some o := by
   intro k
   induction k with
   | zero => intro s o e; simp [roundsN] at e
   | succ k ihk =>
    intro s o e
    simp only [roundsN] at e
    split at e
    · rename_i fr h he
      obtain ⟨n, hn⟩ := ih he
      obtain ⟨m, hm⟩ := ihk _ _ e
      refine ⟨max n m, ?_⟩
      simp only [roundsN, exec_mono (R.up (Nat.le_max_left n m)) hn]
      exact roundsN_mono (fun s o q => exec_mono (R.up (Nat.le_max_right n m)) q) hm
    · rename_i hne
      obtain ⟨n, hn⟩ := ih e
      refine ⟨n, ?_⟩
      simp only [roundsN, hn]
      split
      · rename_i fr h he
        exact absurd (e.trans (by rw [he])) (hne _ _)
      · rfl
  obtain ⟨n, hn⟩ := key k s o hk
  exact ⟨n, by simp only [exec]; exact rounds_iff.2 ⟨k, hn⟩⟩
 | exit id => intro s o e; exact ⟨0, e⟩
 | ret => intro s o e; exact ⟨0, e⟩
 | range ps keep x a b iha ihb =>
  intro s o e
  simp only [exec] at e
  split at e
  · rename_i f u v hx
    split at e
    · rename_i rv h hc
      obtain ⟨n, hn⟩ := R.all _ _ _ _ hc
      refine ⟨n, ?_⟩
      simp only [exec, hx, hn]
      exact e
    · cases e
  · cases e
theorem rise_body0 {S : Nat → CallFn} {C : CallFn} (R : Rise S C) {d : DFn} {args : List EV} {h : Hp} {r : EV × Hp} (e : body0 C d args h = some r) : ∃ n, body0 (S n) d args h = some r := by
 unfold body0 at *
 split at e
 · rename_i hl
   simp only [if_pos hl]
   split at e
   · cases e
   · rename_i ex fr h' hne hex
     obtain ⟨n, hn⟩ := rise_exec R hex
     refine ⟨n, ?_⟩
     rw [hn]
     cases ex with
     | exit i => exact (hne i rfl).elim
     | normal => exact e
     | ret => exact e
   · cases e
 · cases e
theorem rise_body {S : Nat → CallFn} {C : CallFn} (R : Rise S C) {d : DFn} {args : List EV} {h : Hp} {r : EV × Hp} (e : body C d args h = some r) : ∃ n, body (S n) d args h = some r := by
 unfold body at *
 split at e
 · exact rise_body0 R e
 · cases e
theorem rise_round {S : Nat → CallFn} {C : CallFn} (R : Rise S C) {args : List EV} {h : Hp} {r : EV × Hp} (e : roundC C args h = some r) : ∃ n, roundC (S n) args h = some r := by
 obtain ⟨z, as, l, fr, h1, l1, ex, fr2, h2, l2, rfl, b1, b2, b3, b4, b5, b6, b7, b8, rfl⟩ := roundC_some e
 obtain ⟨n, hn⟩ := rise_exec R b4
 obtain ⟨m, hm⟩ := rise_exec R b7
 exact ⟨max n m, roundC_of b1 b2 b3 (exec_mono (R.up (Nat.le_max_left n m)) hn) b5 b6 (exec_mono (R.up (Nat.le_max_right n m)) hm) b8⟩
theorem call_rise {p : Prog} {ext : CallFn → CallFn} (hm : ∀ C C', Sub C C' → Sub (ext C) (ext C')) : Rise (callN p ext) (call p ext) :=
 ⟨fun h => callN_le hm h, fun _ _ _ _ h => (call_iff hm).1 h⟩
theorem call_of_body {p : Prog} {ext : CallFn → CallFn} (hm : ∀ C C', Sub C C' → Sub (ext C) (ext C')) {f : Nat} {d : DFn} (hd : p f = some d) {args : List EV} {h : Hp} {r : EV × Hp} (e : body (call p ext) d args h = some r) : call p ext f args h = some r := by
 obtain ⟨n, hn⟩ := rise_body (call_rise hm) e
 exact (call_iff hm).2 ⟨n + 1, by simp only [callN, hd]; exact hn⟩
theorem call_of_round {p : Prog} {ext : CallFn → CallFn} (hm : ∀ C C', Sub C C' → Sub (ext C) (ext C')) (hp : p yieldNo = none) {args : List EV} {h : Hp} {r : EV × Hp} (e : roundC (call p ext) args h = some r) : call p ext yieldNo args h = some r := by
 obtain ⟨n, hn⟩ := rise_round (call_rise hm) e
 exact (call_iff hm).2 ⟨n + 1, by simp only [callN, hp]; exact hn⟩
end Dk
namespace Dk
open Go
theorem beqt {a b : Nat} (h : a = b) : Nat.beq a b = true := by subst h; exact Nat.beq_refl _
theorem beqf {a b : Nat} (h : a ≠ b) : Nat.beq a b = false := by
 cases e : Nat.beq a b with
 | false => rfl
 | true => exact absurd (Nat.eq_of_beq_eq_true e) h
inductive T (α : Type) where
 | nil
 | node (l : T α) (v : α) (r : T α)
def T.get {α : Type} (d : α) : T α → Nat → α
 | .nil, _ => d
 | .node l v r, k => cond (Nat.beq k 0) v (cond (Nat.beq (k % 2) 1) (T.get d l (k / 2)) (T.get d r (k / 2 - 1)))
def T.set {α : Type} (d : α) : Nat → T α → Nat → α → T α
 | 0, _, _, _ => .nil
 | f + 1, .nil, k, x => cond (Nat.beq k 0) (.node .nil x .nil) (cond (Nat.beq (k % 2) 1) (.node (T.set d f .nil (k / 2) x) d .nil) (.node .nil d (T.set d f .nil (k / 2 - 1) x)))
 | f + 1, .node l v r, k, x => cond (Nat.beq k 0) (.node l x r) (cond (Nat.beq (k % 2) 1) (.node (T.set d f l (k / 2) x) v r) (.node l v (T.set d f r (k / 2 - 1) x)))
theorem T.get_set {α : Type} {d : α} : ∀ {f : Nat} {t : T α} {k : Nat} {x : α} (j : Nat), k + 1 < 2 ^ f → T.get d (T.set d f t k x) j = if j = k then x else T.get d t j
 | 0, t, k, x, j, h => by simp at h
 | f + 1, t, k, x, j, h => by
  have e2 : 2 ^ (f + 1) = 2 ^ f * 2 := Nat.pow_succ ..
  by_cases k0 : k = 0
  · subst k0
    by_cases j0 : j = 0
    · subst j0; cases t <;> simp [T.set, T.get]
    · have := beqf j0
      cases t <;> simp [T.set, T.get, j0, this]
  · have hk0 : Nat.beq k 0 = false := beqf k0
    by_cases k1 : k % 2 = 1
    · have hk1 : Nat.beq (k % 2) 1 = true := beqt k1
      have hb : k / 2 + 1 < 2 ^ f := by omega
      by_cases j0 : j = 0
      · have : j ≠ k := by omega
        subst j0
        cases t <;> simp [T.set, hk0, hk1, T.get, this]
      · have hj0 : Nat.beq j 0 = false := beqf j0
        by_cases j1 : j % 2 = 1
        · have hj1 : Nat.beq (j % 2) 1 = true := beqt j1
          have he : (j / 2 = k / 2) = (j = k) := by apply propext; omega
          cases t <;> simp only [T.set, hk0, hk1, T.get, hj0, hj1, cond_true, cond_false, T.get_set (j / 2) hb, he]
        · have hj1 : Nat.beq (j % 2) 1 = false := beqf j1
          have : j ≠ k := by omega
          cases t <;> simp [T.set, hk0, hk1, T.get, hj0, hj1, this]
    · have hk1 : Nat.beq (k % 2) 1 = false := beqf k1
      have hb : k / 2 - 1 + 1 < 2 ^ f := by omega
      by_cases j0 : j = 0
      · have : j ≠ k := by omega
        subst j0
        cases t <;> simp [T.set, hk0, hk1, T.get, this]
      · have hj0 : Nat.beq j 0 = false := beqf j0
        by_cases j1 : j % 2 = 1
        · have hj1 : Nat.beq (j % 2) 1 = true := beqt j1
          have : j ≠ k := by omega
          cases t <;> simp [T.set, hk0, hk1, T.get, hj0, hj1, this]
        · have hj1 : Nat.beq (j % 2) 1 = false := beqf j1
          have he : (j / 2 - 1 = k / 2 - 1) = (j = k) := by apply propext; omega
          cases t <;> simp only [T.set, hk0, hk1, T.get, hj0, hj1, cond_true, cond_false, T.get_set (j / 2 - 1) hb, he]
/-! Frames. -/
abbrev TF := T EV
def X.evT (t : TF) : X → EV
 | .t n => T.get .junk t n
 | .v e => e
def FRel (t : TF) (fr : Fr) : Prop := ∀ k, T.get .junk t k = fr.get k
theorem X.evT_eq {t : TF} {fr : Fr} (R : FRel t fr) (x : X) : x.evT t = x.ev fr := by
 cases x with
 | t n => exact R n
 | v e => rfl
def TF.put (t : TF) (k : Nat) (v : EV) : Option TF := cond (Nat.blt k 4000) (some (T.set .junk 12 t k v)) none
theorem TF.put_ok {t t' : TF} {fr : Fr} (R : FRel t fr) {k : Nat} {v : EV} (e : t.put k v = some t') : FRel t' ((k, v) :: fr) := by
 unfold TF.put at e
 cases hb : Nat.blt k 4000 with
 | false => rw [hb] at e; cases e
 | true =>
  rw [hb] at e
  cases e
  have hk : k < 4000 := by simp [Nat.blt] at hb; omega
  intro j
  rw [T.get_set j (by omega)]
  simp only [Fr.get, R j]
  by_cases h : j = k
  · subst h; simp
  · rw [if_neg h, if_neg (Ne.symm h)]
def TF.putO (t : TF) (d : Option Nat) (v : EV) : Option TF := match d with
 | some k => t.put k v
 | none => some t
theorem TF.putO_ok {t t' : TF} {fr : Fr} (R : FRel t fr) {d : Option Nat} {v : EV} (e : t.putO d v = some t') : FRel t' (fr.put d v) := by
 cases d with
 | none => cases e; exact R
 | some k => exact TF.put_ok R e
def TF.ofL : List (Nat × EV) → Option TF
 | [] => some .nil
 | (k, v) :: r => match TF.ofL r with
  | some t => t.put k v
  | none => none
theorem TF.ofL_ok : ∀ {l : List (Nat × EV)} {t : TF}, TF.ofL l = some t → FRel t l
 | [], t, e => by cases e; intro k; rfl
 | (k, v) :: r, t, e => by
  simp only [TF.ofL] at e
  split at e
  · rename_i t' he
    exact TF.put_ok (TF.ofL_ok he) e
  · cases e
def TF.keep (t : TF) (l : List Nat) : List (Nat × EV) := l.map fun k => (k, T.get .junk t k)
theorem TF.keep_eq {t : TF} {fr : Fr} (R : FRel t fr) (l : List Nat) : t.keep l = l.map fun k => (k, fr.get k) := by
 unfold TF.keep
 exact List.map_congr_left fun k _ => by rw [R k]
/-! Memory. -/
abbrev TO := T (Option Obj)
structure HK where
 tree : TO
 n : Nat
 lim : Nat
def TRel (t : TO) (os : List Obj) : Prop := (∀ i, T.get none t i = os[i]?) ∧ os.length < 1000000
structure HRel (H : HK) (h : Hp) : Prop where
 tr : TRel H.tree h.objs
 n : H.n = h.objs.length
 lim : H.lim = h.lim
def TO.up (t : TO) (i : Nat) (o : Obj) : TO := T.set none 20 t i (some o)
theorem TO.up_ok {t : TO} {os : List Obj} (R : TRel t os) {i : Nat} {o : Obj} (hi : i < os.length) : TRel (t.up i o) (os.set i o) := by
 refine ⟨fun j => ?_, by simpa using R.2⟩
 have := R.2
 rw [TO.up, T.get_set j (by omega), List.getElem?_set]
 by_cases h : j = i
 · subst h; simp [hi]
 · rw [if_neg h, if_neg (Ne.symm h), R.1 j]
def HK.new (H : HK) (o : Obj) : Option HK := cond (Nat.blt H.n 999990) (some ⟨H.tree.up H.n o, H.n + 1, H.lim⟩) none
theorem HK.new_ok {H H' : HK} {h : Hp} (R : HRel H h) {o : Obj} (e : H.new o = some H') : HRel H' (h.new o) := by
 unfold HK.new at e
 cases hb : Nat.blt H.n 999990 with
 | false => rw [hb] at e; cases e
 | true =>
  rw [hb] at e
  cases e
  have hk : H.n < 999990 := by simp [Nat.blt] at hb; omega
  have hn := R.n
  refine ⟨⟨fun j => ?_, by simp [Hp.new]; omega⟩, by simp [Hp.new, hn], R.lim⟩
  rw [TO.up, T.get_set j (by omega)]
  simp only [Hp.new]
  by_cases hj : j = H.n
  · subst hj; simp [hn]
  · rw [if_neg hj, R.tr.1 j]
    by_cases h2 : j < h.objs.length
    · exact (List.getElem?_append_left h2).symm
    · rw [List.getElem?_eq_none (by omega), List.getElem?_eq_none (by simp; omega)]
end Dk
namespace Dk
open Go Go.RowKit
def Pre (h h' : Hp) : Prop := h'.lim = h.lim ∧ h.objs.length ≤ h'.objs.length ∧ ∀ i, i < h.lim → i < h.objs.length → h'.objs[i]? = h.objs[i]?
theorem Pre.refl (h : Hp) : Pre h h := ⟨rfl, Nat.le_refl _, fun _ _ _ => rfl⟩
theorem Pre.trans {h h' h'' : Hp} (a : Pre h h') (b : Pre h' h'') : Pre h h'' :=
 ⟨b.1.trans a.1, Nat.le_trans a.2.1 b.2.1, fun i h1 h2 => (b.2.2 i (by rw [a.1]; exact h1) (Nat.lt_of_lt_of_le h2 a.2.1)).trans (a.2.2 i h1 h2)⟩
theorem Pre.set (h : Hp) {id : Nat} (hl : h.lim ≤ id) (o : Obj) : Pre h { h with objs := h.objs.set id o } :=
 ⟨rfl, by simp, fun i h1 _ => List.getElem?_set_ne (by omega)⟩
theorem Pre.new (h : Hp) (o : Obj) : Pre h (h.new o) :=
 ⟨rfl, by simp [Hp.new], fun i _ h2 => List.getElem?_append_left h2⟩
def PreC (C : CallFn) : Prop := ∀ f args h r h', C f args h = some (r, h') → Pre h h'
theorem store_pre {n : Nat} {x v : EV} {h h' : Hp} (e : storeAt n x v h = some h') : Pre h h' := by
 unfold storeAt at e
 (repeat' split at e) <;> first | (cases e; done) | skip
 rename_i hc
 cases e
 exact Pre.set _ (by omega) _
theorem app_pre {sz : Nat} {ag : Bool} {bytes : Nat} {s x r : EV} {h h' : Hp} (e : appendTo sz ag bytes s x h = some (r, h')) : Pre h h' := by
 unfold appendTo at e
 (repeat' split at e) <;> first
  | (cases e; done)
  | (cases e; exact Pre.refl _)
  | (cases e; exact Pre.new _ _)
  | (cases e; exact Pre.set _ (by omega) _)
theorem appz_pre {sz : Nat} {ag : Bool} {bytes : Nat} {z : List EV} {s x r : EV} {h h' : Hp} (e : appendZ sz ag bytes z s x h = some (r, h')) : Pre h h' := by
 unfold appendZ appendEls at e
 (repeat' split at e) <;> first
  | (cases e; done)
  | (cases e; exact Pre.refl _)
  | (cases e; exact Pre.new _ _)
  | (cases e; exact Pre.set _ (by omega) _)
theorem mapSet_pre {ck : CK} {m k v : EV} {h h' : Hp} (e : mapSet ck m k v h = some h') : Pre h h' := by
 unfold mapSet at e
 (repeat' split at e) <;> first
  | (cases e; done)
  | (rename_i hc; cases e; exact Pre.set _ hc.2 _)
theorem mapDel_pre {ck : CK} {m k : EV} {h h' : Hp} (e : mapDel ck m k h = some h') : Pre h h' := by
 unfold mapDel at e
 (repeat' split at e) <;> first
  | (cases e; done)
  | (cases e; exact Pre.refl _)
  | (rename_i hc; cases e; exact Pre.set _ hc.2 _)
theorem bwrite_pre {x s r : EV} {h h' : Hp} (e : bwrite x s h = some (r, h')) : Pre h h' := by
 unfold bwrite at e
 (repeat' split at e) <;> first
  | (cases e; done)
  | (rename_i hc; cases e; exact Pre.set _ hc.2 _)
theorem btext_pre {x r : EV} {h h' : Hp} (e : btext x h = some (r, h')) : Pre h h' := by
 unfold btext at e
 (repeat' split at e) <;> first
  | (cases e; done)
  | (rename_i hc; cases e; exact Pre.set _ hc.2 _)
theorem act_pre {C : CallFn} (hC : PreC C) {op : DOp} {fr : Fr} {h h' : Hp} {r : EV} (e : act C op fr h = some (r, h')) : Pre h h' := by
 cases op <;> simp only [act] at e <;> first | (cases e; done) | skip
 case st n x v =>
  simp only [Option.map_eq_some_iff] at e
  obtain ⟨h2, e1, e2⟩ := e
  cases e2
  exact store_pre e1
 case upd ck m k v =>
  simp only [Option.map_eq_some_iff] at e
  obtain ⟨h2, e1, e2⟩ := e
  cases e2
  exact mapSet_pre e1
 case del ck m k =>
  simp only [Option.map_eq_some_iff] at e
  obtain ⟨h2, e1, e2⟩ := e
  cases e2
  exact mapDel_pre e1
 case app sz ag bytes s x => exact app_pre e
 case appz sz ag bytes z s x => exact appz_pre e
 case strb x =>
  split at e
  · cases e; exact Pre.refl _
  · cases e
 case byts x =>
  split at e
  · cases e; exact Pre.refl _
  · cases e
 case bwr x s => exact bwrite_pre e
 case bstr x => exact btext_pre e
 case mnth m i =>
  split at e
  · cases e; exact Pre.refl _
  · cases e
 case may x args =>
  split at e
  · exact hC _ _ _ _ _ e
  · cases e
 case call f args => exact hC _ _ _ _ _ e
 case callv x args =>
  split at e
  · exact hC _ _ _ _ _ e
  · exact hC _ _ _ _ _ e
  · cases e
theorem op_pre {C : CallFn} (hC : PreC C) {op : DOp} {fr : Fr} {h h' : Hp} {r : EV} (e : runOp C op fr h = some (r, h')) : Pre h h' := by
 unfold runOp at e
 split at e
 · simp only [Option.map_eq_some_iff] at e
   obtain ⟨v, _, e2⟩ := e
   cases e2
   exact Pre.refl _
 · unfold make at e
   split at e
   · cases e; exact Pre.new _ _
   · cases e
 · exact act_pre hC e
theorem steps_pre {C : CallFn} (hC : PreC C) : ∀ {l : List Step} {fr fr' : Fr} {h h' : Hp}, runSteps C l fr h = some (fr', h') → Pre h h'
 | [], fr, fr', h, h', e => by simp [runSteps] at e; rw [e.2]; exact Pre.refl _
 | s :: l, fr, fr', h, h', e => by
  simp only [runSteps] at e
  split at e
  · rename_i fr1 h1 hr
    have h2 := steps_pre hC e
    rcases runStep_cases hr with ⟨_, v, hro, _, _⟩ | ⟨_, _, rfl⟩
    · exact (op_pre hC hro).trans h2
    · exact h2
  · cases e
theorem rounds_pre {f : St → Option Out} (hf : ∀ s e fr h, f s = some (e, fr, h) → Pre s.2 h) {keep : List Nat} : ∀ {n : Nat} {s : St} {e : Ex} {fr : Fr} {h : Hp}, roundsN f keep n s = some (e, fr, h) → Pre s.2 h
 | 0, s, e, fr, h, q => by simp [roundsN] at q
 | n + 1, s, e, fr, h, q => by
  simp only [roundsN] at q
  split at q
  · rename_i fr1 h1 he
    have h2 := hf _ _ _ _ he
    exact h2.trans (rounds_pre hf q)
  · have h2 := hf _ _ _ _ q
    exact h2
theorem exec_pre {C : CallFn} (hC : PreC C) : ∀ {d : DC} {s : St} {e : Ex} {fr : Fr} {h : Hp}, exec C d s = some (e, fr, h) → Pre s.2 h := by
 intro d
 induction d with
 | skip => intro s e fr h q; simp [exec] at q; rw [← q.2.2]; exact Pre.refl _
 | ops l =>
  intro s e fr h q
  simp only [exec] at q
  split at q
  · rename_i fr1 h1 hr
    cases q
    exact steps_pre hC hr
  · cases q
 | seq a b iha ihb =>
  intro s e fr h q
  simp only [exec] at q
  split at q
  · rename_i fr1 h1 ha
    exact (iha ha).trans (ihb q)
  · exact iha q
 | cond x a b iha ihb =>
  intro s e fr h q
  simp only [exec] at q
  split at q
  · rename_i t ht
    cases t
    · exact ihb (by simpa using q)
    · exact iha (by simpa using q)
  · cases q
 | block id c ih =>
  intro s e fr h q
  simp only [exec] at q
  split at q
  · rename_i i fr1 h1 he
    split at q <;> (cases q; exact ih he)
  · exact ih q
 | loop keep c ih =>
  intro s e fr h q
  simp only [exec] at q
  obtain ⟨n, hn⟩ := rounds_iff.1 q
  exact rounds_pre (fun s e fr h q => ih q) hn
 | exit id => intro s e fr h q; simp [exec] at q; rw [← q.2.2]; exact Pre.refl _
 | ret => intro s e fr h q; simp [exec] at q; rw [← q.2.2]; exact Pre.refl _
 | range ps keep x a b iha ihb =>
  intro s e fr h q
  simp only [exec] at q
  split at q
  · split at q
    · rename_i rv h1 hc
      have h2 := (Pre.new s.2 _).trans (hC _ _ _ _ _ hc)
      split at q
      · split at q
        · cases q
          refine ⟨h2.1, by simpa using h2.2.1, fun i q1 q2 => ?_⟩
          rw [show (_ : Hp).objs = h1.objs.set s.2.objs.length _ from rfl, List.getElem?_set_ne (by omega)]
          exact h2.2.2 i q1 q2
        · cases q
      · cases q
    · cases q
  · cases q
theorem roundC_pre {C : CallFn} (hC : PreC C) {args : List EV} {h h' : Hp} {r : EV} (e : roundC C args h = some (r, h')) : Pre h h' := by
 obtain ⟨z, as, l, fr, h1, l1, ex, fr2, h2, l2, rfl, b1, b2, b3, b4, b5, b6, b7, b8, hr⟩ := roundC_some e
 cases hr
 have p1 := exec_pre hC b4
 have p2 := p1.trans (Pre.set h1 (by rw [p1.1]; exact b3.2) (.loop { l1 with st := .busy }))
 have p3 := p2.trans (exec_pre hC b7)
 exact p3.trans (Pre.set h2 (by rw [p3.1]; exact b3.2) _)
def PreO (lim : Nat) (os os' : List Obj) : Prop := os.length ≤ os'.length ∧ ∀ i, i < lim → i < os.length → os'[i]? = os[i]?
theorem PreO.refl (lim : Nat) (os : List Obj) : PreO lim os os := ⟨Nat.le_refl _, fun _ _ _ => rfl⟩
theorem PreO.trans {lim : Nat} {os os' os'' : List Obj} (a : PreO lim os os') (b : PreO lim os' os'') : PreO lim os os'' :=
 ⟨Nat.le_trans a.1 b.1, fun i h1 h2 => (b.2 i h1 (Nat.lt_of_lt_of_le h2 a.1)).trans (a.2 i h1 h2)⟩
mutual
theorem shareC_pre : ∀ (lim n : Nat) (e : EV) (os : List Obj) (x : PD) (os' : List Obj), shareC lim n e os = some (x, os') → PreO lim os os'
 | lim, n, .p x, os, x', os', h => by simp [shareC] at h; rw [h.2]; exact PreO.refl _ _
 | lim, n, .full xs, os, x', os', h => by simp [shareC] at h; rw [h.2]; exact PreO.refl _ _
 | lim, n + 1, .arr id gn sz off len f, os, x', os', h => by
  simp only [shareC] at h
  split at h
  · split at h
    · rename_i hc
      split at h
      · rename_i ps os1 hels
        have h1 := shareEls_pre lim n _ _ os ps os1 hels
        split at h
        · simp only [Option.some.injEq, Prod.mk.injEq] at h
          obtain ⟨_, rfl⟩ := h
          exact h1.trans ⟨by simp, fun i q1 _ => List.getElem?_set_ne (by omega)⟩
        · cases h
      · cases h
    · cases h
  · cases h
 | lim, 0, .arr .., os, x', os', h => by simp [shareC] at h
 | lim, n, .ptr .., os, x', os', h => by simp [shareC] at h
 | lim, n, .sub .., os, x', os', h => by simp [shareC] at h
 | lim, n, .nilp, os, x', os', h => by simp [shareC] at h
 | lim, n, .cp .., os, x', os', h => by simp [shareC] at h
 | lim, n, .fn .., os, x', os', h => by simp [shareC] at h
 | lim, n, .nilf, os, x', os', h => by simp [shareC] at h
 | lim, n, .map _, os, x', os', h => by simp [shareC] at h
 | lim, n, .nilmap, os, x', os', h => by simp [shareC] at h
 | lim, n, .bld _, os, x', os', h => by simp [shareC] at h
 | lim, n, .yld _, os, x', os', h => by simp [shareC] at h
 | lim, n, .iface .., os, x', os', h => by simp [shareC] at h
 | lim, n, .nili, os, x', os', h => by simp [shareC] at h
 | lim, n, .agg _, os, x', os', h => by simp [shareC] at h
 | lim, n, .tup _, os, x', os', h => by simp [shareC] at h
 | lim, n, .junk, os, x', os', h => by simp [shareC] at h
theorem shareEls_pre : ∀ (lim n : Nat) (ag : Bool) (els : List (List EV)) (os : List Obj) (xs : List PD) (os' : List Obj), shareEls lim n ag els os = some (xs, os') → PreO lim os os'
 | lim, n, ag, [], os, xs, os', h => by simp [shareEls] at h; rw [h.2]; exact PreO.refl _ _
 | lim, n, ag, el :: r, os, xs, os', h => by
  simp only [shareEls] at h
  split at h
  · rename_i cs os1 hcs
    have h1 := shareCs_pre lim n el os cs os1 hcs
    split at h
    · split at h
      · rename_i xs' os2 hr
        simp only [Option.some.injEq, Prod.mk.injEq] at h
        obtain ⟨_, rfl⟩ := h
        exact h1.trans (shareEls_pre lim n ag r os1 xs' os2 hr)
      · cases h
    · cases h
  · cases h
theorem shareCs_pre : ∀ (lim n : Nat) (es : List EV) (os : List Obj) (cs : List PD) (os' : List Obj), shareCs lim n es os = some (cs, os') → PreO lim os os'
 | lim, n, [], os, cs, os', h => by simp [shareCs] at h; rw [h.2]; exact PreO.refl _ _
 | lim, n, e :: r, os, cs, os', h => by
  simp only [shareCs] at h
  split at h
  · rename_i x os1 hx
    have h1 := shareC_pre lim n e os x os1 hx
    split at h
    · rename_i xs os2 hr
      simp only [Option.some.injEq, Prod.mk.injEq] at h
      obtain ⟨_, rfl⟩ := h
      exact h1.trans (shareCs_pre lim n r os1 xs os2 hr)
    · cases h
  · cases h
end
end Dk
namespace Dk
open Go Go.RowKit
variable [Globs] [SiteRel] {P : Program} {B : Nat} {w0 w : World}
mutual
theorem shareV_pre : ∀ (lim : Nat) (e : EV) (os : List Obj) (r : EV) (os' : List Obj), shareV lim e os = some (r, os') → PreO lim os os'
 | lim, .arr id gn sz off len f, os, r, os', h => by
  simp only [shareV] at h
  cases hs : shareC lim 8 (.arr id gn sz off len f) os with
  | none => simp [hs] at h
  | some x =>
   simp [hs] at h
   obtain ⟨_, rfl⟩ := h
   exact shareC_pre lim 8 _ os x.1 x.2 hs
 | lim, .agg cs, os, r, os', h => by
  simp only [shareV] at h
  cases hs : shareVs lim cs os with
  | none => simp [hs] at h
  | some x =>
   simp [hs] at h
   obtain ⟨_, rfl⟩ := h
   exact shareVs_pre lim cs os x.1 x.2 hs
 | lim, .full _, os, r, os', h => by simp [shareV] at h; rw [h.2]; exact PreO.refl _ _
 | lim, .p _, os, r, os', h => by simp [shareV] at h; rw [h.2]; exact PreO.refl _ _
 | lim, .ptr .., os, r, os', h => by simp [shareV] at h; rw [h.2]; exact PreO.refl _ _
 | lim, .sub .., os, r, os', h => by simp [shareV] at h; rw [h.2]; exact PreO.refl _ _
 | lim, .nilp, os, r, os', h => by simp [shareV] at h; rw [h.2]; exact PreO.refl _ _
 | lim, .cp .., os, r, os', h => by simp [shareV] at h; rw [h.2]; exact PreO.refl _ _
 | lim, .fn .., os, r, os', h => by simp [shareV] at h; rw [h.2]; exact PreO.refl _ _
 | lim, .nilf, os, r, os', h => by simp [shareV] at h; rw [h.2]; exact PreO.refl _ _
 | lim, .map _, os, r, os', h => by simp [shareV] at h; rw [h.2]; exact PreO.refl _ _
 | lim, .bld _, os, r, os', h => by simp [shareV] at h; rw [h.2]; exact PreO.refl _ _
 | lim, .nilmap, os, r, os', h => by simp [shareV] at h; rw [h.2]; exact PreO.refl _ _
 | lim, .yld _, os, r, os', h => by simp [shareV] at h; rw [h.2]; exact PreO.refl _ _
 | lim, .iface .., os, r, os', h => by simp [shareV] at h; rw [h.2]; exact PreO.refl _ _
 | lim, .nili, os, r, os', h => by simp [shareV] at h; rw [h.2]; exact PreO.refl _ _
 | lim, .tup _, os, r, os', h => by simp [shareV] at h; rw [h.2]; exact PreO.refl _ _
 | lim, .junk, os, r, os', h => by simp [shareV] at h; rw [h.2]; exact PreO.refl _ _
theorem shareVs_pre : ∀ (lim : Nat) (es : List EV) (os : List Obj) (rs : List EV) (os' : List Obj), shareVs lim es os = some (rs, os') → PreO lim os os'
 | lim, [], os, rs, os', h => by simp [shareVs] at h; rw [h.2]; exact PreO.refl _ _
 | lim, e :: r, os, rs, os', h => by
  simp only [shareVs] at h
  split at h
  · rename_i x os1 hx
    have h1 := shareV_pre lim e os x os1 hx
    split at h
    · rename_i xs os2 hr
      simp only [Option.some.injEq, Prod.mk.injEq] at h
      obtain ⟨_, rfl⟩ := h
      exact h1.trans (shareVs_pre lim r os1 xs os2 hr)
    · cases h
  · cases h
end
theorem body0_pre {C : CallFn} (hC : PreC C) {d : DFn} {args : List EV} {h h' : Hp} {r : EV} (e : body0 C d args h = some (r, h')) : Pre h h' := by
 unfold body0 at e
 split at e
 · split at e
   · cases e
   · rename_i ex fr h1 hne hex
     have hp := exec_pre hC hex
     split at e
     · cases e
     · split at e
       · cases e
       · rename_i vs os hsh
         split at e
         · dsimp only at e
           split at e
           · cases e; exact Pre.refl _
           · cases e
         · rename_i hloc
           cases e
           have hl : (if d.loc = true then ({ h with lim := h.objs.length } : Hp) else h) = h := by rw [if_neg hloc]
           simp only [hl] at hp
           split at hsh
           · have h2 := shareVs_pre _ _ _ _ _ hsh
             exact ⟨rfl, Nat.le_trans hp.2.1 h2.1, fun i q1 q2 => (h2.2 i (by rw [hp.1]; exact q1) (Nat.lt_of_lt_of_le q2 hp.2.1)).trans (hp.2.2 i q1 q2)⟩
           · cases hsh
             exact ⟨rfl, hp.2⟩
   · cases e
 · cases e
theorem body_pre {C : CallFn} (hC : PreC C) {d : DFn} {args : List EV} {h h' : Hp} {r : EV} (e : body C d args h = some (r, h')) : Pre h h' := by
 unfold body shareArgs at e
 split at e
 · rename_i as h1 hs
   have h2 := body0_pre hC e
   split at hs
   · split at hs
     · rename_i as' os hsh
       cases hs
       have h1 := shareVs_pre _ _ _ _ _ hsh
       exact Pre.trans (h' := ⟨os, h.lim⟩) ⟨rfl, h1.1, h1.2⟩ h2
     · cases hs
   · cases hs
     exact h2
 · cases e
def Gh.cut (g : Gh) (n : Nat) : Gh := { g with ph := fun i => if i < n then g.ph i else none, pend := fun i => i < n ∧ g.pend i }
mutual
theorem RV_under {g : Gh} {os : List Obj} : ∀ (e : EV) (v : Value), RV g os e v → EV.under os.length e = true
 | .p _, v, h => rfl
 | .full _, v, h => rfl
 | .arr id .., v, h => by
  simp only [RV] at h
  obtain ⟨_, a, cap, ar, _, _, ho, _⟩ := h
  simp [EV.under, (List.getElem?_eq_some_iff.1 ho).1]
 | .ptr id .., v, h => by
  simp only [RV] at h
  obtain ⟨b0, o0, ar, _, ho, _⟩ := h
  simp [EV.under, (List.getElem?_eq_some_iff.1 ho).1]
 | .sub id .., v, h => by
  simp only [RV] at h
  obtain ⟨_, a, cap, ar, _, _, ho, _⟩ := h
  simp [EV.under, (List.getElem?_eq_some_iff.1 ho).1]
 | .nilp, v, h => rfl
 | .cp .., v, h => rfl
 | .fn f a b, v, h => by
  simp only [RV] at h
  obtain ⟨fa, fb, _, h1, h2⟩ := h
  simp [EV.under, RVs_under a _ h1, RVs_under b _ h2]
 | .nilf, v, h => rfl
 | .map id, v, h => by
  simp only [RV] at h
  obtain ⟨b, x, y, es, _, _, ho⟩ := h
  simp [EV.under, (List.getElem?_eq_some_iff.1 ho).1]
 | .nilmap, v, h => rfl
 | .yld id, v, h => by
  simp only [RV] at h
  obtain ⟨l, x, y, lo, _, _, ho⟩ := h
  simp [EV.under, (List.getElem?_eq_some_iff.1 ho).1]
 | .bld id, v, h => by
  simp only [RV] at h
  obtain ⟨l, x, y, lo, _, _, ho⟩ := h
  simp [EV.under, (List.getElem?_eq_some_iff.1 ho).1]
 | .iface t e, v, h => by
  simp only [RV] at h
  obtain ⟨u, _, h⟩ := h
  simp [EV.under, RV_under e u h]
 | .nili, v, h => rfl
 | .agg cs, v, h => by
  simp only [RV] at h
  obtain ⟨u, _, h⟩ := h
  simp [EV.under, RVs_under cs _ h]
 | .tup cs, v, h => by
  simp only [RV] at h
  obtain ⟨u, _, h⟩ := h
  simp [EV.under, RVs_under cs _ h]
 | .junk, v, h => rfl
theorem RVs_under {g : Gh} {os : List Obj} : ∀ (es : List EV) (vs : List Value), RVs g os es vs → EV.unders os.length es = true
 | [], vs, h => rfl
 | e :: r, vs, h => by
  simp only [RVs] at h
  obtain ⟨v, ws, _, h1, h2⟩ := h
  simp [EV.unders, RV_under e v h1, RVs_under r ws h2]
end
mutual
theorem RV.cut {g : Gh} {os os' : List Obj} (hp : ∀ i, i < os.length → os'[i]? = os[i]?) : ∀ (e : EV) (v : Value), EV.under os.length e = true → RV g os' e v → RV (g.cut os.length) os e v
 | .p _, v, hu, h => by simpa [RV, Gh.cut] using h
 | .full _, v, hu, h => by simpa [RV, Gh.cut] using h
 | .arr id gen sz off len f, v, hu, h => by
  have hlt : id < os.length := by simpa [EV.under] using hu
  simp only [RV] at h ⊢
  obtain ⟨⟨hs, hn⟩, a, cap, ar, rfl, hl, ho, hg, h1, h2⟩ := h
  refine ⟨⟨hs, fun q => hn q.2⟩, a, cap, ar, rfl, hl, by rw [← hp id hlt]; exact ho, hg, h1, ?_⟩
  simpa [Gh.cut, hlt] using h2
 | .ptr id gen i o, v, hu, h => by
  have hlt : id < os.length := by simpa [EV.under] using hu
  simp only [RV] at h ⊢
  obtain ⟨b0, o0, ar, rfl, ho, hg, h1⟩ := h
  refine ⟨b0, o0, ar, rfl, by rw [← hp id hlt]; exact ho, hg, ?_⟩
  simpa [Gh.cut, hlt] using h1
 | .sub id gen i o sz len, v, hu, h => by
  have hlt : id < os.length := by simpa [EV.under] using hu
  simp only [RV] at h ⊢
  obtain ⟨hs, a, cap, ar, rfl, hl, ho, hg, h2⟩ := h
  refine ⟨hs, a, cap, ar, rfl, hl, by rw [← hp id hlt]; exact ho, hg, ?_⟩
  simpa [Gh.cut, hlt] using h2
 | .nilp, v, hu, h => by simpa [RV] using h
 | .cp .., v, hu, h => by simpa [RV, Gh.cut] using h
 | .fn f a b, v, hu, h => by
  simp only [EV.under, Bool.and_eq_true] at hu
  simp only [RV] at h ⊢
  obtain ⟨fa, fb, rfl, h1, h2⟩ := h
  exact ⟨fa, fb, rfl, RVs.cut hp a _ hu.1 h1, RVs.cut hp b _ hu.2 h2⟩
 | .nilf, v, hu, h => by simpa [RV] using h
 | .map id, v, hu, h => by
  have hlt : id < os.length := by simpa [EV.under] using hu
  simp only [RV] at h ⊢
  obtain ⟨b, x, y, es, rfl, hph, ho⟩ := h
  exact ⟨b, x, y, es, rfl, by simpa [Gh.cut, hlt] using hph, by rw [← hp id hlt]; exact ho⟩
 | .nilmap, v, hu, h => by simpa [RV] using h
 | .yld id, v, hu, h => by
  have hlt : id < os.length := by simpa [EV.under] using hu
  simp only [RV] at h ⊢
  obtain ⟨l, x, y, lo, rfl, hph, ho⟩ := h
  exact ⟨l, x, y, lo, rfl, by simpa [Gh.cut, hlt] using hph, by rw [← hp id hlt]; exact ho⟩
 | .bld id, v, hu, h => by
  have hlt : id < os.length := by simpa [EV.under] using hu
  simp only [RV] at h ⊢
  obtain ⟨b, x, y, s, rfl, hph, ho⟩ := h
  exact ⟨b, x, y, s, rfl, by simpa [Gh.cut, hlt] using hph, by rw [← hp id hlt]; exact ho⟩
 | .iface t e, v, hu, h => by
  simp only [EV.under] at hu
  simp only [RV] at h ⊢
  obtain ⟨u, rfl, h⟩ := h
  exact ⟨u, rfl, RV.cut hp e u hu h⟩
 | .nili, v, hu, h => by simpa [RV] using h
 | .agg cs, v, hu, h => by
  simp only [EV.under] at hu
  simp only [RV] at h ⊢
  obtain ⟨u, rfl, h⟩ := h
  exact ⟨u, rfl, RVs.cut hp cs _ hu h⟩
 | .tup cs, v, hu, h => by
  simp only [EV.under] at hu
  simp only [RV] at h ⊢
  obtain ⟨u, rfl, h⟩ := h
  exact ⟨u, rfl, RVs.cut hp cs _ hu h⟩
 | .junk, v, hu, h => by simp [RV]
theorem RVs.cut {g : Gh} {os os' : List Obj} (hp : ∀ i, i < os.length → os'[i]? = os[i]?) : ∀ (es : List EV) (vs : List Value), EV.unders os.length es = true → RVs g os' es vs → RVs (g.cut os.length) os es vs
 | [], vs, hu, h => by simpa [RVs] using h
 | e :: r, vs, hu, h => by
  simp only [EV.unders, Bool.and_eq_true] at hu
  simp only [RVs] at h ⊢
  obtain ⟨v, ws, rfl, h1, h2⟩ := h
  exact ⟨v, ws, rfl, RV.cut hp e v hu.1 h1, RVs.cut hp r ws hu.2 h2⟩
end
end Dk
namespace Dk
open Go Go.RowKit
variable [Globs] [SiteRel] {P : Program} {B : Nat} {w0 w w' : World}
theorem ph_same {g g' : Gh} {os os' : List Obj} (hE : Ext g os g' os') (hK : Kept os.length g os g' os') (hp : ∀ i, i < os.length → os'[i]? = os[i]?) {i : Nat} (hi : i < os.length) : g'.ph i = g.ph i := by
 cases hq : g.ph i with
 | none => exact (hK.old i hi).2 hi hq
 | some x =>
  cases ho : os[i] with
  | cells ar =>
   have ho' : os[i]? = some (.cells ar) := by rw [← ho]; exact List.getElem?_eq_getElem hi
   obtain ⟨ar', h1, h2, h3⟩ := hE.cells i ar ho'
   rw [hp i hi, ho'] at h1
   cases h1
   exact (h3 rfl).2 x hq
  | map es =>
   have ho' : os[i]? = some (.map es) := by rw [← ho]; exact List.getElem?_eq_getElem hi
   obtain ⟨es', h1, h2⟩ := hE.maps i es ho'
   exact h2 x hq
  | loop lo =>
   have ho' : os[i]? = some (.loop lo) := by rw [← ho]; exact List.getElem?_eq_getElem hi
   obtain ⟨lo', h1, h2⟩ := hE.loops i lo ho'
   exact h2 x hq
  | bld s =>
   have ho' : os[i]? = some (.bld s) := by rw [← ho]; exact List.getElem?_eq_getElem hi
   obtain ⟨s', h1, h2⟩ := hE.blds i s ho'
   exact h2 x hq
theorem cut_ok {g g' : Gh} {os os' : List Obj} (hI : Inv B w0 g os w) (hI' : Inv B w0 g' os' w') (hE : Ext g os g' os') (hK : Kept os.length g os g' os') (hp : ∀ i, i < os.length → os'[i]? = os[i]?) (lim : Nat) :
 Inv B w0 (g'.cut os.length) os w' ∧ Ext g os (g'.cut os.length) os ∧ Kept lim g os (g'.cut os.length) os := by
 have hph : ∀ {i : Nat} {x : Nat × Nat × Nat}, (g'.cut os.length).ph i = some x → i < os.length ∧ g'.ph i = some x := by
  intro i x h
  simp only [Gh.cut] at h
  split at h
  · exact ⟨‹_›, h⟩
  · cases h
 have hcut : ∀ {i : Nat}, i < os.length → (g'.cut os.length).ph i = g.ph i := by
  intro i hi
  simp only [Gh.cut, if_pos hi]
  exact ph_same hE hK hp hi
 refine ⟨⟨fun i h => ?_, hI'.low, hI'.base, hI'.rdok, fun i x h => (hph h).1, fun i i' b x y x' y' h h' => hI'.inj i i' b x y x' y' (hph h).2 (hph h').2, fun i b x y h => hI'.high i b x y (hph h).2, ?_, ?_, ?_, hI'.defs, hI'.gl.mono fun _ _ _ h => h, fun c b0 hcb => ?_, fun i s b x y ho hpi => ?_⟩, ⟨hE.rd, fun i ar h => ⟨ar, h, Nat.le_refl _, fun _ => ⟨rfl, fun x hx => ?_⟩⟩, fun i es h => ⟨es, h, fun x hx => ?_⟩, fun i es h => ⟨es, h, fun x hx => ?_⟩, fun i hi h => hE.pend i hi h.2, fun i s h => ⟨s, h, fun x hx => ?_⟩⟩, ⟨fun i hi => ⟨fun h => ⟨⟨hi, ((hK.old i hi).1 h).1⟩, rfl⟩, fun _ h => by rw [hcut hi]; exact h⟩, hK.df⟩⟩
 · obtain ⟨h1, h2⟩ := h
   refine ⟨?_, h1⟩
   simp only [Gh.cut, if_pos h1]
   exact (hI'.pend i h2).1
 · intro i ar b x y ho hpi
   obtain ⟨hi, hpi'⟩ := hph hpi
   have hpg : g.ph i = some (b, x, y) := by rw [← ph_same hE hK hp hi]; exact hpi'
   obtain ⟨k1, k2, k3, arr, T, k4, k5, k6⟩ := hI'.cells i ar b x y (by rw [hp i hi]; exact ho) hpi'
   obtain ⟨_, _, _, arr0, T0, _, _, j6⟩ := hI.cells i ar b x y ho hpg
   refine ⟨k1, k2, k3, arr, T, k4, k5, fun k el hk => ?_⟩
   obtain ⟨e1, e2⟩ := k6 k el hk
   refine ⟨e1, fun j e hj => ?_⟩
   obtain ⟨v, q1, q2, q3⟩ := e2 j e hj
   obtain ⟨v0, _, _, q4⟩ := (j6 k el hk).2 j e hj
   exact ⟨v, q1, q2, RV.cut hp e v (RV_under e v0 q4) q3⟩
 · intro i es b x y ho hpi
   obtain ⟨hi, hpi'⟩ := hph hpi
   have hpg : g.ph i = some (b, x, y) := by rw [← ph_same hE hK hp hi]; exact hpi'
   obtain ⟨mes, clock, m1, m2, m3⟩ := hI'.maps i es b x y (by rw [hp i hi]; exact ho) hpi'
   obtain ⟨_, _, _, _, j3⟩ := hI.maps i es b x y ho hpg
   refine ⟨mes, clock, m1, m2, fun k kk e hk => ?_⟩
   obtain ⟨me, q1, q2, q3⟩ := m3 k kk e hk
   obtain ⟨me0, _, _, q4⟩ := j3 k kk e hk
   exact ⟨me, q1, q2, RV.cut hp e _ (RV_under e _ q4) q3⟩
 · intro i lo b x y ho hpi
   obtain ⟨hi, hpi'⟩ := hph hpi
   have hpg : g.ph i = some (b, x, y) := by rw [← ph_same hE hK hp hi]; exact hpi'
   obtain ⟨r, m1, m2, m3, m4⟩ := hI'.loops i lo b x y (by rw [hp i hi]; exact ho) hpi'
   obtain ⟨r0, _, _, _, j4⟩ := hI.loops i lo b x y ho hpg
   exact ⟨r, m1, m2, m3, fun t => RV.cut hp _ _ (RV_under _ _ (j4 t)) (m4 t)⟩
 · obtain ⟨q0, q1, q2, q3⟩ := hI'.bfok c b0 hcb
   exact ⟨q0, q1, fun i b x y hpi => q2 i b x y (hph hpi).2, q3⟩
 · obtain ⟨hi, hpi'⟩ := hph hpi
   obtain ⟨q1, q2, q3⟩ := hI'.blds i s b x y (by rw [hp i hi]; exact ho) hpi'
   exact ⟨q1, q2, fun t ht => (q3 t ht).keep rfl (fun _ _ => rfl) fun _ h => h⟩
 · rw [hcut (List.getElem?_eq_some_iff.1 h).1]; exact hx
 · rw [hcut (List.getElem?_eq_some_iff.1 h).1]; exact hx
 · rw [hcut (List.getElem?_eq_some_iff.1 h).1]; exact hx
 · rw [hcut (List.getElem?_eq_some_iff.1 h).1]; exact hx
theorem Went.cut {g : Gh} {os os' : List Obj} (hI : Inv B w0 g os w) {r : EV} {u : Value} (h : Went os.length B w0 g os os' r u w') (hp : ∀ i, i < os.length → os'[i]? = os[i]?) (hu : EV.under os.length r = true) (lim : Nat) : Went lim B w0 g os os r u w' := by
 obtain ⟨g', h1, h2, h3, h4⟩ := h
 obtain ⟨q1, q2, q3⟩ := cut_ok hI h1 h2 h3 hp lim
 exact ⟨_, q1, q2, q3, RV.cut hp r u hu h4⟩
end Dk
namespace Dk
open Go Go.RowKit
variable [Globs] [SiteRel] {P : Program} {B : Nat} {w0 w : World}
theorem body0_ok {C : CallFn} (hC : CallOK P C) (hCp : PreC C) {dr : DrawFn} {f : FuncId} {fn : Func} (hf : P.funcs[f]? = some fn) (hD : DrawOK P C fn.ntmps dr) (hT : SiteOK P fn.ntmps dr) {keeps : List (List Nat)} {share loc : Bool} {d : DFn} (hc : compFn P dr keeps share loc fn = some d)
 {g : Gh} {os : List Obj} (hI : Inv B w0 g os w) {args : List EV} {vs : List Value} (hv : RVs g os args vs) {lim : Nat} {r : EV} {h' : Hp} (h : body0 C d args ⟨os, lim⟩ = some (r, h')) :
 h'.lim = lim ∧ Calls P f vs.toArray w fun
  | .returned v, w' => Went lim B w0 g os h'.objs r v w'
  | _, _ => False := by
 simp only [body0] at h
 split at h
 · rename_i hlen
   split at h
   · cases h
   · rename_i e fr1 h1 hne hex
     have hne' : ∀ i, e ≠ .exit i := fun i q => hne i q
     split at h
     · cases h
     · rename_i rvs hrv
       split at h
       · cases h
       · rename_i rvs2 os2 hsh
         split at h
         · rename_i hloc
           split at h
           · rename_i hu
             cases h
             rw [if_pos hloc] at hex
             refine ⟨rfl, Calls.mono (body_core hC hf hD hT hc hI hv hlen hex hne' hrv hsh) fun e w' q => ?_⟩
             cases e with
             | returned v =>
              refine Went.cut hI q (fun i hi => ?_) hu lim
              have hp := exec_pre hCp hex
              have h2 : PreO h1.lim h1.objs os2 := by
               split at hsh
               · exact shareVs_pre _ _ _ _ _ hsh
               · cases hsh; exact PreO.refl _ _
              have e1 := hp.2.2 i hi hi
              have e2 := h2.2 i (by rw [hp.1]; exact hi) (Nat.lt_of_lt_of_le hi hp.2.1)
              exact e2.trans e1
             | panicked c => exact q
             | outgrown => exact q
           · cases h
         · rename_i hloc
           cases h
           rw [if_neg hloc] at hex
           exact ⟨rfl, body_core hC hf hD hT hc hI hv hlen hex hne' hrv hsh⟩
   · cases h
 · cases h
theorem body0_plain (C : CallFn) (d : DFn) (args : List EV) (h : Hp) : body0 C { d with sha := false } args h = body0 C d args h := rfl
theorem body_ok {C : CallFn} (hC : CallOK P C) (hCp : PreC C) {dr : DrawFn} {f : FuncId} {fn : Func} (hf : P.funcs[f]? = some fn) (hD : DrawOK P C fn.ntmps dr) (hT : SiteOK P fn.ntmps dr) {keeps : List (List Nat)} {share loc : Bool} {d : DFn} (hc : compFn P dr keeps share loc fn = some { d with sha := false })
 {g : Gh} {os : List Obj} (hI : Inv B w0 g os w) {args : List EV} {vs : List Value} (hv : RVs g os args vs) {lim : Nat} {r : EV} {h' : Hp} (h : body C d args ⟨os, lim⟩ = some (r, h')) :
 h'.lim = lim ∧ Calls P f vs.toArray w fun
  | .returned v, w' => Went lim B w0 g os h'.objs r v w'
  | _, _ => False := by
 unfold body shareArgs at h
 split at h
 · rename_i as h1 hs
   rw [← body0_plain] at h
   split at hs
   · split at hs
     · rename_i as' os' hsh
       cases hs
       obtain ⟨g', hS, hr⟩ := shareVs_ok lim args os as os' hsh g hI vs hv
       obtain ⟨q1, q2⟩ := body0_ok hC hCp hf hD hT hc hS.inv hr h
       refine ⟨q1, q2.mono fun e w' q => ?_⟩
       cases e with
       | returned v =>
        obtain ⟨g2, p1, p2, p3, p4⟩ := q
        exact ⟨g2, p1, hS.ext.trans p2, (hS.kept lim).trans hS.ext p3, p4⟩
       | panicked c => exact q
       | outgrown => exact q
     · cases hs
   · cases hs
     exact body0_ok hC hCp hf hD hT hc hI hv h
 · cases h
theorem round_fr {g : Gh} {os : List Obj} : ∀ (ps : List Tmp) (as : List EV) (vs : List Value) (fr : Fr) (tmps : Array Value), as.length = ps.length → (∀ p ∈ ps, p < tmps.size) → RVs g os as vs → (∀ t, RV g os (Fr.get fr t) (tmps.getD t undef)) →
 ∀ t, RV g os (Fr.get ((ps.zip as).foldl (fun fr p => p :: fr) fr) t) (((ps.zip vs).foldl (fun tmps (x : Tmp × Value) => tmps.setIfInBounds x.1 x.2) tmps).getD t undef)
 | [], as, vs, fr, tmps, hl, hp, hv, h => by simpa using h
 | p :: ps, [], vs, fr, tmps, hl, hp, hv, h => by simp at hl
 | p :: ps, a :: as, vs, fr, tmps, hl, hp, hv, h => by
  simp only [RVs] at hv
  obtain ⟨v, ws, rfl, hv1, hv2⟩ := hv
  simp only [List.zip_cons_cons, List.foldl_cons]
  refine round_fr ps as ws _ _ (by simpa using hl) (fun q hq => by simpa using hp q (by simp [hq])) hv2 fun t => ?_
  simp only [Fr.get]
  by_cases e : p = t
  · subst e
    have := hp p (by simp)
    simp [Array.getD_eq_getD_getElem?, this, hv1]
  · rw [if_neg e]
    have := h t
    simpa [Array.getD_eq_getD_getElem?, Array.getElem?_setIfInBounds_ne e] using this
theorem round_size : ∀ (l : List (Tmp × Value)) (tmps : Array Value), (l.foldl (fun tmps (x : Tmp × Value) => tmps.setIfInBounds x.1 x.2) tmps).size = tmps.size
 | [], tmps => rfl
 | x :: l, tmps => by simp [round_size l]
def SiteUse (P : Program) : Prop := ∀ (ps : List Nat) (a b : DC) (nt : Nat) (params : Array Tmp) (assign body : Code), SiteRel.rel ps a b nt params assign body →
 params.toList = ps ∧ (∀ p ∈ ps, p < nt) ∧ ∃ dr k k1 k2, (∀ C, CallOK P C → DrawOK P C nt dr) ∧ SiteOK P nt dr ∧ compCode P nt dr assign k = some (a, k1) ∧ compCode P nt dr body k1 = some (b, k2)
theorem round_ok {C : CallFn} (hC : CallOK P C) (hCp : PreC C) (hU : SiteUse P) {g : Gh} {os : List Obj} (hI : Inv B w0 g os w) {lim id l x y : Nat} {lo : LoopO} {args : List EV} {vs : List Value} {r : EV} {h' : Hp} (hp : g.ph id = some (l, x, y)) (ho : os[id]? = some (.loop lo)) (hv : RVs g os args vs)
 (h : roundC C (rndVs id args) ⟨os, lim⟩ = some (r, h')) : h'.lim = lim ∧ Yields P l vs.toArray w (Went lim B w0 g os h'.objs r) := by
 have hl2 := (roundC_pre hCp h).1
 obtain ⟨z, as, lo', fr1, h1, lo1, ex, fr2, h2, lo2, e0, b1, b2, ⟨b3, b3'⟩, b4, b5, b6, b7, b8, hr⟩ := roundC_some h
 simp only [rndVs, List.cons.injEq, EV.yld.injEq, true_and] at e0
 obtain ⟨rfl, rfl⟩ := e0
 rw [ho] at b1
 cases b1
 cases hr
 obtain ⟨os1, lim1⟩ := h1
 obtain ⟨os2, lim2⟩ := h2
 obtain ⟨r0, hr0, hrel, hst, hfr⟩ := hI.loops id lo l x y ho hp
 obtain ⟨u1, u2, dr, k0, k1, k2, hD, hT, ca, cb⟩ := hU _ _ _ _ _ _ _ hrel
 have hF : Free (Fence.wide.inRound l) := .inr ⟨l, rfl⟩
 have hlv := (RVs_get.1 hv).1
 have hsz : vs.toArray.size = r0.params.size := by
  have := congrArg List.length u1
  simp at this ⊢
  omega
 have hfold : (r0.params.zip vs.toArray).foldl (fun tmps (t, a) => tmps.setIfInBounds t a) r0.tmps = (lo.ps.zip vs).foldl (fun tmps (x : Tmp × Value) => tmps.setIfInBounds x.1 x.2) r0.tmps := by
  rw [← u1, ← Array.foldl_toList]
  simp
 have hS : Stands ([], false) lim B w0 r0.tmps.size (Fence.wide.inRound l) g os g os ((lo.ps.zip args).foldl (fun fr p => p :: fr) lo.fr) { tmps := (r0.params.zip vs.toArray).foldl (fun tmps (t, a) => tmps.setIfInBounds t a) r0.tmps, defers := [] } w := by
  refine ⟨hI, Ext.refl g os, Kept.refl lim g os, fun t _ => ?_, by rw [hfold, round_size], MarksD.nil ([], false) g g, fun l' hl' => ?_⟩
  · show RV g os _ (Array.getD _ t undef)
    rw [hfold]
    exact round_fr lo.ps args vs lo.fr r0.tmps b3 u2 hv hfr t
  · cases hl'
    exact ⟨id, x, y, lo, hp, ho⟩
 have key : ∀ R : Value → World → Prop, (∀ v w', Went lim B w0 g os (os2.set id (.loop { lo2 with st := if ex = .normal then .ready else .done ex })) (.p (.bool (decide (ex = .normal)))) v w' → lim2 = lim → R v w') →
  RoundIn Fence.wide 0 P l r0.fn ((r0.params.zip vs.toArray).foldl (fun tmps (t, a) => tmps.setIfInBounds t a) r0.tmps) r0.assign r0.body w (fun | .returned v, w' => R v w' | _, _ => False) := by
  intro R hR
  refine roundIn_of_wpIn trivial (code_wp hC (hD C hC) hT hF r0.assign k0 k1 lo.a ca (fun h => (by cases h)) g os _ _ w hS _ _ _ b4 _ fun g1 a1 w1 hS1 hl1 => ?_)
  simp only at hl1
  subst hl1
  obtain ⟨lo1', e1, hph1⟩ := hS1.ext.loops id lo ho
  rw [b5] at e1
  cases e1
  have hp1 := hph1 _ hp
  obtain ⟨r1, hr1, hrel1, hst1, hfr1⟩ := hS1.inv.loops id lo1 l x y b5 hp1
  rw [b6] at hst1
  obtain ⟨s1, s2, s3, s4⟩ := hS1.inv.setLoop (lo' := { lo1 with st := .busy }) (r' := { r1 with state := .busy }) b5 hp1 hr1 ⟨hrel1, trivial, hfr1⟩
  refine ⟨_, run_beginRound hr1 hst1.1, ?_⟩
  have hS2 : Stands ([], false) lim1 B w0 r0.tmps.size (Fence.wide.inRound l) g os (g1.at id (l, x, y)) (os1.set id (.loop { lo1 with st := .busy })) fr1 a1 (w1.putObj l (.loop { r1 with state := .busy })) :=
   ⟨s1, hS1.ext.trans s2, hS1.kept.trans hS1.ext (s3 lim1), hS1.fr.mono s2, hS1.size, hS1.marks.mono (s3 lim1).df, rnd_mono hS1.rnd s2⟩
  refine code_wp hC (hD C hC) hT hF r0.body k1 k2 lo.b cb (fun h => (by cases h)) _ _ _ _ _ hS2 _ _ _ b7 _ fun g3 a3 w3 hS3 hl3 => ?_
  simp only at hl3
  obtain ⟨lo2', e2, hph2⟩ := hS3.ext.loops id lo ho
  rw [b8] at e2
  cases e2
  have hp3 := hph2 _ hp
  obtain ⟨r3, hr3, hrel3, _, hfr3⟩ := hS3.inv.loops id lo2 l x y b8 hp3
  have fin : ∀ jump : Option Code, jump = jumpOf ex → ∃ v w', (Instr.endRound l jump).run P w3 = .ok v w' ∧ R v w' := by
   intro jump hj
   have hst' : StIs (if ex = .normal then .ready else .done ex) { r3 with state := if jump.isNone then .ready else .done, pending := jump } := by
    rw [hj]
    cases ex <;> simp [StIs, jumpOf]
   obtain ⟨t1, t2, t3, _⟩ := hS3.inv.setLoop (lo' := { lo2 with st := if ex = .normal then .ready else .done ex }) (r' := { r3 with state := if jump.isNone then .ready else .done, pending := jump }) b8 hp3 hr3 ⟨hrel3, hst', hfr3⟩
   refine ⟨_, _, run_endRound jump hr3, hR _ _ ⟨_, t1, hS3.ext.trans t2, hS3.kept.trans hS3.ext (t3 lim1), ?_⟩ hl3⟩
   simp only [RV, RP]
   rw [hj]
   cases ex <;> simp [jumpOf]
  cases ex with
  | normal => exact fin none rfl
  | exit i => exact fin (some (.exit i)) rfl
  | ret => exact fin (some .ret) rfl
 refine ⟨hl2, ?_⟩
 unfold Yields
 rw [run_yield hr0 hsz]
 exact key _ fun v w' q _ => q
structure GoodFn (P : Program) (f : Nat) (d : DFn) : Prop where
 run : ∀ C, CallOK P C → PreC C → ∀ (B : Nat) (w0 w : World) (g : Gh) (os : List Obj) (lim : Nat) (args : List EV) (vs : List Value) (r : EV) (h' : Hp), Inv B w0 g os w → RVs g os args vs → body C d args ⟨os, lim⟩ = some (r, h') →
  h'.lim = lim ∧ Enters P f vs.toArray w (Went lim B w0 g os h'.objs r)
 ends : ∀ C, CallOK P C → PreC C → ∀ (B : Nat) (w0 w : World) (g : Gh) (os : List Obj) (lim n : Nat) (args : List EV) (vs : List Value) (r : EV) (h' : Hp), f = defNo + n → Inv B w0 g os w → RVs g os args vs → body C d (args ++ [pagg]) ⟨os, lim⟩ = some (r, h') →
  h'.lim = lim ∧ EndsD P n vs.toArray w (Went lim B w0 g os h'.objs r)
 mays : ∀ C, CallOK P C → PreC C → ∀ (B : Nat) (w0 w : World) (g : Gh) (os : List Obj) (lim n : Nat) (args : List EV) (vs : List Value) (r : EV) (h' : Hp), f = mayNo + n → Inv B w0 g os w → RVs g os args vs → body C d (args ++ [pagm]) ⟨os, lim⟩ = some (r, h') →
  h'.lim = lim ∧ EntersM P n vs.toArray w (MayW lim B w0 g os h'.objs r)
 pans : ∀ C, CallOK P C → PreC C → ∀ (B : Nat) (w0 w : World) (g : Gh) (os : List Obj) (lim n : Nat) (args : List EV) (vs : List Value) (x : EV) (u : Value) (r : EV) (h' : Hp), f = panNo + n → Inv B w0 g os w → RVs g os args vs → RV g os x u → body C d (args ++ [x, pagp]) ⟨os, lim⟩ = some (r, h') →
  h'.lim = lim ∧ PanD P n vs.toArray u w (Went lim B w0 g os h'.objs r)
def ProgOK (P : Program) (p : Prog) : Prop := ∀ f d, p f = some d → GoodFn P f d
theorem goodFn {f : Nat} {d : DFn} (hlt : f < defNo) {fn : Func} {dr : DrawFn} {keeps : List (List Nat)} {share loc : Bool} (hf : P.funcs[f]? = some fn) (hn : (fn.name == "runtime.NumGoroutine") = false) (hD : ∀ C, CallOK P C → DrawOK P C fn.ntmps dr) (hT : SiteOK P fn.ntmps dr)
 (hc : compFn P dr keeps share loc fn = some { d with sha := false }) : GoodFn P f d := by
 refine ⟨fun C ih ihp B w0 w g os lim args vs r h' hI hv h => ?_, fun C ih ihp B w0 w g os lim n args vs r h' e => by omega, fun C ih ihp B w0 w g os lim n args vs r h' e => by simp only [defNo, mayNo] at *; omega, fun C ih ihp B w0 w g os lim n args vs x u r h' e => by simp only [defNo, panNo] at *; omega⟩
 obtain ⟨q1, q2⟩ := body_ok ih ihp hf (hD _ ih) hT hc hI hv h
 refine ⟨q1, ?_⟩
 obtain ⟨c, hb, _⟩ := compFn_some hc
 have hrun : (callFunc f vs.toArray).run P w = .ok (.enter f vs.toArray) w := by
  have hn' : fn.name ≠ "runtime.NumGoroutine" := by simpa using hn
  simp [callFunc, hf, hn', hb]
 unfold Enters
 rw [hrun]
 exact q2
def ExtOK (P : Program) (ext : CallFn → CallFn) : Prop := ∀ C, CallOK P C → PreC C → CallOK P (ext C) ∧ PreC (ext C)
theorem callN_ok {p : Prog} {ext : CallFn → CallFn} (hp : ProgOK P p) (hy : p yieldNo = none) (hU : SiteUse P) (he : ExtOK P ext) : ∀ n, CallOK P (callN p ext n) ∧ PreC (callN p ext n)
 | 0 => ⟨⟨by intro B w0 w g os lim f args vs r h' hI hv h; simp [callN] at h, by intro B w0 w g os lim id l x y lo args vs r h' _ _ _ _ h; simp [callN] at h, by intro B w0 w g os lim n args vs r h' _ _ _ h; simp [callN] at h, by intro B w0 w g os lim n args vs r h' _ _ h; simp [callN] at h, by intro B w0 w g os lim n args vs x u r h' _ _ _ _ h; simp [callN] at h⟩, by intro f args h r h' q; simp [callN] at q⟩
 | n + 1 => by
  obtain ⟨ih, ihp⟩ := callN_ok hp hy hU he n
  refine ⟨⟨?_, ?_, ?_, ?_, ?_⟩, ?_⟩
  · intro B w0 w g os lim f args vs r h' hI hv h
    simp only [callN] at h
    split at h
    · rename_i d hd
      exact (hp f d hd).run _ ih ihp _ _ _ _ _ _ _ _ _ _ hI hv h
    · split at h
      · obtain ⟨z, as, l, fr, h1, l1, ex, fr2, h2, l2, rfl, _⟩ := roundC_some h
        simp only [RVs, RV, RP] at hv
        obtain ⟨v, ws, _, hv, _⟩ := hv
        exact hv.elim
      · exact (he _ ih ihp).1.1 B w0 w g os lim f args vs r h' hI hv h
  · intro B w0 w g os lim id l x y lo args vs r h' hI hpp ho hv h
    simp only [callN, hy, if_true] at h
    exact round_ok ih ihp hU hI hpp ho hv h
  · intro B w0 w g os lim m args vs r h' hm hI hv h
    simp only [callN] at h
    split at h
    · rename_i d hd
      exact (hp _ d hd).ends _ ih ihp _ _ _ _ _ _ _ _ _ _ _ rfl hI hv h
    · split at h
      · rename_i e; simp only [defNo, yieldNo] at e; omega
      · exact (he _ ih ihp).1.3 B w0 w g os lim m args vs r h' hm hI hv h
  · intro B w0 w g os lim m args vs r h' hI hv h
    simp only [callN] at h
    split at h
    · rename_i d hd
      exact (hp _ d hd).mays _ ih ihp _ _ _ _ _ _ _ _ _ _ _ rfl hI hv h
    · split at h
      · obtain ⟨z, as, l, fr, h1, l1, ex, fr2, h2, l2, e, _⟩ := roundC_some h
        cases args with
        | nil => simp at e
        | cons a0 ar =>
         simp only [List.cons_append, List.cons.injEq] at e
         obtain ⟨rfl, _⟩ := e
         simp only [RVs, RV, RP] at hv
         obtain ⟨v, ws, _, hv, _⟩ := hv
         exact hv.elim
      · exact (he _ ih ihp).1.4 B w0 w g os lim m args vs r h' hI hv h
  · intro B w0 w g os lim m args vs x u r h' hm hI hv hx h
    simp only [callN] at h
    split at h
    · rename_i d hd
      exact (hp _ d hd).pans _ ih ihp _ _ _ _ _ _ _ _ _ _ _ _ _ rfl hI hv hx h
    · split at h
      · rename_i e; simp only [panNo, yieldNo] at e; omega
      · exact (he _ ih ihp).1.5 B w0 w g os lim m args vs x u r h' hm hI hv hx h
  · intro f args h r h' q
    simp only [callN] at q
    split at q
    · exact body_pre ihp q
    · split at q
      · exact roundC_pre ihp q
      · exact (he _ ih ihp).2 _ _ _ _ _ q
theorem call_ok {p : Prog} {ext : CallFn → CallFn} (hp : ProgOK P p) (hy : p yieldNo = none) (hU : SiteUse P) (he : ExtOK P ext) (hm : ∀ C C', Sub C C' → Sub (ext C) (ext C')) : CallOK P (call p ext) := by
 refine ⟨?_, ?_, ?_, ?_, ?_⟩
 · intro B w0 w g os lim f args vs r h' hI hv h
   obtain ⟨n, hn⟩ := (call_iff hm).1 h
   exact (callN_ok hp hy hU he n).1.1 B w0 w g os lim f args vs r h' hI hv hn
 · intro B w0 w g os lim id l x y lo args vs r h' hI hpp ho hv h
   obtain ⟨n, hn⟩ := (call_iff hm).1 h
   exact (callN_ok hp hy hU he n).1.2 B w0 w g os lim id l x y lo args vs r h' hI hpp ho hv hn
 · intro B w0 w g os lim m args vs r h' hm' hI hv h
   obtain ⟨n, hn⟩ := (call_iff hm).1 h
   exact (callN_ok hp hy hU he n).1.3 B w0 w g os lim m args vs r h' hm' hI hv hn
 · intro B w0 w g os lim m args vs r h' hI hv h
   obtain ⟨n, hn⟩ := (call_iff hm).1 h
   exact (callN_ok hp hy hU he n).1.4 B w0 w g os lim m args vs r h' hI hv hn
 · intro B w0 w g os lim m args vs x u r h' hm' hI hv hx h
   obtain ⟨n, hn⟩ := (call_iff hm).1 h
   exact (callN_ok hp hy hU he n).1.5 B w0 w g os lim m args vs x u r h' hm' hI hv hx hn
end Dk
namespace Dk
open Go Go.RowKit
variable [Globs] [SiteRel] {P : Program} {B : Nat} {w0 w : World} {g : Gh} {os : List Obj}
/-! Returns as exits. -/
def retTo (k : Nat) : DC → DC
 | .ret => .exit k
 | .seq a b => .seq (retTo k a) (retTo k b)
 | .cond x a b => .cond x (retTo k a) (retTo k b)
 | .block id c => .block id (retTo k c)
 | .loop keep c => .loop keep (retTo k c)
 | d => d
def retOK (k : Nat) : DC → Bool
 | .exit id => !(Nat.beq id k)
 | .block id c => !(Nat.beq id k) && retOK k c
 | .seq a b => retOK k a && retOK k b
 | .cond _ a b => retOK k a && retOK k b
 | .loop _ c => retOK k c
 | .range .. => false
 | _ => true
def toEx (k : Nat) : Ex → Ex
 | .ret => .exit k
 | e => e
omit [Globs] [SiteRel] in
theorem toEx_normal {k : Nat} {e : Ex} (h : toEx k e = .normal) : e = .normal := by cases e <;> simp [toEx] at h ⊢
omit [Globs] [SiteRel] in
theorem retTo_exec {C : CallFn} {k : Nat} : ∀ {d : DC} {s : St} {e' : Ex} {fr : Fr} {h : Hp}, retOK k d = true → exec C (retTo k d) s = some (e', fr, h) → ∃ e, exec C d s = some (e, fr, h) ∧ e' = toEx k e ∧ e ≠ .exit k := by
 intro d
 induction d with
 | skip => intro s e' fr h _ hx; simp only [retTo, exec, Option.some.injEq, Prod.mk.injEq] at hx; obtain ⟨rfl, rfl, rfl⟩ := hx; exact ⟨.normal, rfl, rfl, by simp⟩
 | ops l =>
  intro s e' fr h _ hx
  simp only [retTo, exec] at hx
  split at hx
  · rename_i q
    simp only [Option.some.injEq, Prod.mk.injEq] at hx
    obtain ⟨rfl, rfl, rfl⟩ := hx
    exact ⟨.normal, by simp only [exec, q], rfl, by simp⟩
  · cases hx
 | seq a b iha ihb =>
  intro s e' fr h ho hx
  simp only [retOK, Bool.and_eq_true] at ho
  simp only [retTo, exec] at hx
  split at hx
  · rename_i fr1 h1 q
    obtain ⟨e1, p1, p2, _⟩ := iha ho.1 q
    obtain rfl := toEx_normal p2.symm
    obtain ⟨e2, r1, r2, r3⟩ := ihb ho.2 hx
    exact ⟨e2, by simp only [exec, p1, r1], r2, r3⟩
  · rename_i hne
    obtain ⟨e1, p1, p2, p3⟩ := iha ho.1 hx
    refine ⟨e1, ?_, p2, p3⟩
    simp only [exec, p1]
    split
    · rename_i q; cases q; exact (hne _ _ (by rw [hx, p2]; rfl)).elim
    · rfl
 | cond x a b iha ihb =>
  intro s e' fr h ho hx
  simp only [retOK, Bool.and_eq_true] at ho
  simp only [retTo, exec] at hx ⊢
  split at hx
  · rename_i t ht
    cases t with
    | true =>
     obtain ⟨e1, p1, p2⟩ := iha ho.1 (by simpa using hx)
     exact ⟨e1, by simp only [ht, if_true, p1], p2⟩
    | false =>
     obtain ⟨e1, p1, p2⟩ := ihb ho.2 (by simpa using hx)
     exact ⟨e1, by simp only [ht, Bool.false_eq_true, if_false, p1], p2⟩
  · cases hx
 | block id c ih =>
  intro s e' fr h ho hx
  simp only [retOK, Bool.and_eq_true, Bool.not_eq_true'] at ho
  have hid : id ≠ k := fun q => by have := beqt q; rw [ho.1] at this; cases this
  simp only [retTo, exec] at hx
  split at hx
  · rename_i i fr1 h1 q
    obtain ⟨e1, p1, p2, p3⟩ := ih ho.2 q
    cases e1 with
    | normal => cases p2
    | ret =>
     simp only [toEx, Ex.exit.injEq] at p2
     subst p2
     rw [if_neg (Ne.symm hid)] at hx
     cases hx
     exact ⟨.ret, by simp only [exec, p1], rfl, by simp⟩
    | exit j =>
     simp only [toEx, Ex.exit.injEq] at p2
     subst p2
     split at hx
     · rename_i hi
       cases hx
       exact ⟨.normal, by simp only [exec, p1, if_pos hi], rfl, by simp⟩
     · rename_i hi
       cases hx
       exact ⟨.exit i, by simp only [exec, p1, if_neg hi], rfl, p3⟩
  · rename_i hne
    obtain ⟨e1, p1, p2, p3⟩ := ih ho.2 hx
    refine ⟨e1, ?_, p2, p3⟩
    simp only [exec, p1]
    split
    · rename_i q; cases q; exact (hne _ _ _ (by rw [hx, p2]; rfl)).elim
    · rfl
 | loop keep c ih =>
  intro s e' fr h ho hx
  simp only [retOK] at ho
  simp only [retTo, exec] at hx
  obtain ⟨n, hn⟩ := rounds_iff.1 hx
  have key : ∀ n s, roundsN (exec C (retTo k c)) keep n s = some (e', fr, h) → ∃ e, roundsN (exec C c) keep n s = some (e, fr, h) ∧ e' = toEx k e ∧ e ≠ .exit k := by
   intro n
   induction n with
   | zero => intro s q; simp [roundsN] at q
   | succ n ihn =>
    intro s q
    simp only [roundsN] at q
    split at q
    · rename_i fr1 h1 q1
      obtain ⟨e1, p1, p2, _⟩ := ih ho q1
      obtain rfl := toEx_normal p2.symm
      obtain ⟨e2, r1, r2⟩ := ihn _ q
      exact ⟨e2, by simp only [roundsN, p1, r1], r2⟩
    · rename_i hne
      obtain ⟨e1, p1, p2, p3⟩ := ih ho q
      refine ⟨e1, ?_, p2, p3⟩
      simp only [roundsN, p1]
      split
      · rename_i q2; cases q2; exact (hne _ _ (by rw [q, p2]; rfl)).elim
      · rfl
  obtain ⟨e, r1, r2⟩ := key n s hn
  exact ⟨e, by simp only [exec]; exact rounds_iff.2 ⟨n, r1⟩, r2⟩
 | exit id =>
  intro s e' fr h ho hx
  simp only [retOK, Bool.not_eq_true'] at ho
  have hid : id ≠ k := fun q => by have := beqt q; rw [ho] at this; cases this
  simp only [retTo, exec, Option.some.injEq, Prod.mk.injEq] at hx
  obtain ⟨rfl, rfl, rfl⟩ := hx
  exact ⟨.exit id, rfl, rfl, fun q => hid (by cases q; rfl)⟩
 | ret =>
  intro s e' fr h ho hx
  simp only [retTo, exec, Option.some.injEq, Prod.mk.injEq] at hx
  obtain ⟨rfl, rfl, rfl⟩ := hx
  exact ⟨.ret, rfl, rfl, by simp⟩
 | range => intro s e' fr h ho; simp [retOK] at ho
/-! What is not written stays, or is not known. -/
def nowr (t : Nat) : DC → Bool
 | .ops l => l.all fun s => match s.dst with
  | some d => !(Nat.beq d t)
  | none => true
 | .seq a b => nowr t a && nowr t b
 | .cond _ a b => nowr t a && nowr t b
 | .block _ c => nowr t c
 | .loop _ c => nowr t c
 | .range .. => true
 | _ => true
omit [Globs] [SiteRel] in
theorem nowr_steps {C : CallFn} {t : Nat} : ∀ {l : List Step} {fr fr' : Fr} {h h' : Hp}, (l.all fun s => match s.dst with
 | some d => !(Nat.beq d t)
 | none => true) = true → runSteps C l fr h = some (fr', h') → fr'.get t = fr.get t
 | [], fr, fr', h, h', _, e => by simp [runSteps] at e; rw [e.1]
 | s :: l, fr, fr', h, h', ho, e => by
  simp only [List.all_cons, Bool.and_eq_true] at ho
  simp only [runSteps] at e
  split at e
  · rename_i fr1 h1 q
    rw [nowr_steps ho.2 e]
    have hp : ∀ v, (fr.put s.dst v).get t = fr.get t := by
     intro v
     cases hd : s.dst with
     | none => rfl
     | some d =>
      have := ho.1
      rw [hd] at this
      simp only [Bool.not_eq_true'] at this
      rw [get_put, if_neg (fun q => by have := beqt q; simp_all)]
    rcases runStep_cases q with ⟨_, v, _, _, rfl⟩ | ⟨_, rfl, _⟩ <;> exact hp _
  · cases e
omit [Globs] [SiteRel] in
theorem nowr_exec {C : CallFn} {t : Nat} : ∀ {d : DC} {s : St} {e : Ex} {fr : Fr} {h : Hp}, nowr t d = true → exec C d s = some (e, fr, h) → fr.get t = s.1.get t ∨ fr.get t = .junk := by
 intro d
 induction d with
 | skip => intro s e fr h _ hx; simp only [exec, Option.some.injEq, Prod.mk.injEq] at hx; exact .inl (by rw [← hx.2.1])
 | ops l =>
  intro s e fr h ho hx
  simp only [exec] at hx
  split at hx
  · rename_i q; cases hx; exact .inl (nowr_steps ho q)
  · cases hx
 | seq a b iha ihb =>
  intro s e fr h ho hx
  simp only [nowr, Bool.and_eq_true] at ho
  simp only [exec] at hx
  split at hx
  · rename_i fr1 h1 q
    have h1 := iha ho.1 q
    rcases ihb ho.2 hx with h2 | h2
    · rw [h2]; exact h1
    · exact .inr h2
  · exact iha ho.1 hx
 | cond x a b iha ihb =>
  intro s e fr h ho hx
  simp only [nowr, Bool.and_eq_true] at ho
  simp only [exec] at hx
  split at hx
  · split at hx
    · exact iha ho.1 hx
    · exact ihb ho.2 hx
  · cases hx
 | block id c ih =>
  intro s e fr h ho hx
  simp only [nowr] at ho
  simp only [exec] at hx
  split at hx
  · rename_i q
    have := ih ho q
    split at hx <;> (cases hx; exact this)
  · exact ih ho hx
 | loop keep c ih =>
  intro s e fr h ho hx
  simp only [nowr] at ho
  simp only [exec] at hx
  obtain ⟨n, hn⟩ := rounds_iff.1 hx
  have key : ∀ n s, roundsN (exec C c) keep n s = some (e, fr, h) → fr.get t = s.1.get t ∨ fr.get t = .junk := by
   intro n
   induction n with
   | zero => intro s q; simp [roundsN] at q
   | succ n ihn =>
    intro s q
    have mask : ∀ {a : EV}, (a = Fr.get (keep.map fun k => (k, s.1.get k)) t ∨ a = .junk) → (a = s.1.get t ∨ a = .junk) := by
     intro a ha
     rcases ha with ha | ha
     · rcases get_mask s.1 keep t with m | m
       · exact .inl (ha.trans m)
       · exact .inr (ha.trans m)
     · exact .inr ha
    simp only [roundsN] at q
    split at q
    · rename_i fr1 h1 q1
      have h1 := mask (ih ho q1)
      rcases ihn _ q with h2 | h2
      · rw [h2]; exact h1
      · exact .inr h2
    · exact mask (ih ho q)
  exact key n s hn
 | exit id => intro s e fr h _ hx; simp only [exec, Option.some.injEq, Prod.mk.injEq] at hx; exact .inl (by rw [← hx.2.1])
 | ret => intro s e fr h _ hx; simp only [exec, Option.some.injEq, Prod.mk.injEq] at hx; exact .inl (by rw [← hx.2.1])
 | range ps keep x a b _ _ =>
  intro s e fr h _ hx
  simp only [exec] at hx
  split at hx
  · split at hx
    · split at hx
      · split at hx
        · cases hx; exact .inl rfl
        · cases hx
      · cases hx
    · cases hx
  · cases hx
end Dk
namespace Dk
open Go Go.RowKit
variable [Globs] [SiteRel] {P : Program} {B : Nat} {w0 w : World} {g : Gh} {os : List Obj}
structure CSpec where
 f : Nat
 A : List X
 B : List X
 k : Nat
def deferOf : Code → Option (Nat × List Oper × Tmp)
 | .region _ ops false => match ops.toList.reverse with
  | o :: r => match o.op, o.guard, o.dst with
   | .defer c, none, none => match c.callee with
    | .value (.tmp t) => if c.args.size = 0 then some (ops.size - 1, r.reverse, t) else none
    | _ => none
   | _, _, _ => none
  | [] => none
 | _ => none
def opsOf : Code → Array Oper
 | .region _ ops _ => ops
 | _ => #[]
def xnowr (d : DC) : X → Bool
 | .t n => nowr n d
 | .v _ => true
def endStep (s : CSpec) : Step := ⟨none, .call (defNo + s.f) (s.A ++ s.B ++ [.v pagg]), none, []⟩
def seeStep (s : CSpec) (t : Nat) : Step := ⟨none, .mv (.v .nili), none, [(t, .mkf (.func s.f) s.A s.B, none)]⟩
omit [Globs] [SiteRel] in
theorem deferOf_ok {x : Code} {n : Nat} {pre : List Oper} {t : Tmp} (h : deferOf x = some (n, pre, t)) : ∃ id ops o c, x = .region id ops false ∧ ops.size = n + 1 ∧ ops.toList = pre ++ [o] ∧ o.op = .defer c ∧ c.callee = .value (.tmp t) ∧ c.args = #[] ∧ o.guard = none ∧ o.dst = none := by
 unfold deferOf at h
 split at h
 · rename_i id ops
   split at h
   · rename_i o r hr
     split at h
     · rename_i c h1 h2 h3
       split at h
       · rename_i t' h4
         split at h
         · rename_i h5
           cases h
           have e : ops.toList = r.reverse ++ [o] := by
            have := congrArg List.reverse hr
            simpa using this
           have hs : ops.size = r.length + 1 := by
            have := congrArg List.length e
            simpa using this
           exact ⟨id, ops, o, c, rfl, by omega, e, h1, h4, Array.eq_empty_of_size_eq_zero h5, h2, h3⟩
         · cases h
       · cases h
     · cases h
   · cases h
 · cases h
omit [Globs] [SiteRel] in
theorem wpOps_append {F : Fence} {n : Nat} {ops : Array Oper} {Q : Exit → Act → World → Prop} {l2 : List Nat} : ∀ (l1 : List Nat) (a : Act) (w : World), wpOpsIn F n P ops (Exit.then (fun a w => wpOpsIn F n P ops Q l2 a w) Q) l1 a w → wpOpsIn F n P ops Q (l1 ++ l2) a w
 | [], a, w, h => h
 | i :: l1, a, w, h => by
  simp only [List.cons_append, wpOpsIn] at h ⊢
  split
  · rename_i ho
    rw [ho] at h
    exact wpOps_append l1 a w h
  · rename_i o ho
    rw [ho] at h
    simp only at h
    split
    · rename_i hw
      rw [if_pos hw] at h
      refine Oper.wpIn_mono (K := wpOpsIn F n P ops (Exit.then (fun a w => wpOpsIn F n P ops Q l2 a w) Q) l1) (fun a w q => wpOps_append l1 a w q) ?_
      refine ⟨h.1, ?_⟩
      have h2 := h.2
      revert h2
      generalize (o.semAt F.round a.eval).run P w = res
      intro h2
      cases res with
      | ok x w' => cases x <;> exact h2
      | halt x w' => cases x <;> exact h2
    · rename_i hw
      rw [if_neg hw] at h
      exact ⟨h.1, wpOps_append l1 _ w h.2⟩
theorem leaves_tail {fn : Func} {tmps : Array Value} {R : Ending → World → Prop} {tail : List Deferred} : ∀ (bs : List Nat) (g : Gh) (w : World), Inv B w0 g os w → bs.Nodup → (∀ b ∈ bs, g.df b) →
 (∀ (d : Nat → Prop) (w' : World), Inv B w0 (g.defs d) os w' → (∀ x, g.df x → x ∉ bs → d x) → LeavesInM Fence.wide 0 P fn tmps R tail .returning w') →
 LeavesInM Fence.wide 0 P fn tmps R ((bs.map fun b => { target := .collected b, args := #[] }) ++ tail) .returning w
 | [], g, w, hI, _, _, h => h g.df w hI fun x hx _ => hx
 | b :: bs, g, w, hI, hn, hd, h => by
  obtain ⟨hB, hb⟩ := hI.defs b (hd b (by simp))
  obtain ⟨hn1, hn2⟩ := List.nodup_cons.1 hn
  refine ⟨by simp, .inl ⟨b, _, rfl, run_takeDeferred hb, ?_⟩⟩
  have h1 : Inv B w0 (g.defs fun x => x ≠ b ∧ g.df x) os (w.putObj b (.deferred none)) := hI.away (Chg.putObj w b _) hB (.inr ⟨_, hb⟩) fun x hx =>
   ⟨(hI.defs x hx.2).1, (World.putObj_heap_other hx.1).trans (hI.defs x hx.2).2⟩
  exact leaves_tail bs _ _ h1 hn2 (fun x hx => ⟨fun e => hn1 (e ▸ hx), hd x (by simp [hx])⟩) fun d w' hI' hd' => h d w' hI' fun x hx hxb => hd' x ⟨fun e => hxb (by simp [e]), hx⟩ (fun hx' => hxb (by simp [hx']))
def RetW (L B : Nat) (w0 : World) (g : Gh) (os os2 : List Obj) (r : EV) : Ending → World → Prop
 | .returned v, w' => Went L B w0 g os os2 r v w'
 | _, _ => False
theorem fin_marks {fn : Func} {L : Nat} {g1 : Gh} {os1 : List Obj} {w1 : World} {fr1 : Fr} {a1 : Act} {bs : List Nat} (hI1 : Inv B w0 g1 os1 w1) (hE : Ext g os g1 os1) (hK : Kept L g os g1 os1) (hfr : FrOK g1 os1 fr1 a1) (m2 : bs.Nodup) (m3 : ∀ b ∈ bs, g1.df b ∧ ¬ g.df b)
 {res : List Res} (hres : compRes P fn.results.toList = some res) {lim1 : Nat} {rvs rvs2 : List EV} (hrv : resultsOf fr1 ⟨os1, lim1⟩ res = some rvs) {share : Bool} {os2 : List Obj} (hsh : (if share then shareVs lim1 rvs os1 else some (rvs, os1)) = some (rvs2, os2)) :
 LeavesInM Fence.wide 0 P fn a1.tmps (RetW L B w0 g os os2 (oneEV rvs2)) (bs.map fun b => { target := .collected b, args := #[] }) .returning w1 := by
 refine leaves_ok bs g1 w1 hI1 m2 (fun b hb => (m3 b hb).1) fun df w2 hI2 hdf => ?_
 have hE2 := Ext.defs g1 os1 df
 have hK2 : Kept L g os (g1.defs df) os1 := ⟨hK.old, fun b hb => hdf b (hK.df b hb) fun hbs => (m3 b hbs).2 hb⟩
 obtain ⟨us, hru, hrs⟩ := results_ok (P := P) hI2 (hfr.mono hE2) hres hrv
 refine ⟨_, hru, ?_⟩
 split at hsh
 · obtain ⟨g2, hS2, hr2⟩ := shareVs_ok lim1 rvs os1 rvs2 os2 hsh _ hI2 us hrs
   exact ⟨g2, hS2.inv, (hE.trans hE2).trans hS2.ext, hK2.trans (hE.trans hE2) (hS2.kept L), one_ok hr2⟩
 · cases hsh
   exact ⟨_, hI2, hE.trans hE2, hK2, one_ok hrs⟩
omit [Globs] [SiteRel] in
theorem RVs_weak : ∀ {es es' : List EV} {vs : List Value}, RVs g os es vs → es'.length = es.length → (∀ (i : Nat) (e : EV), es'[i]? = some e → es[i]? = some e ∨ e = .junk) → RVs g os es' vs := by
 intro es es' vs h hl hw
 obtain ⟨h1, h2⟩ := RVs_get.1 h
 refine RVs_get.2 ⟨hl.trans h1, fun i e he => ?_⟩
 rcases hw i e he with q | rfl
 · exact h2 i e q
 · have hi : i < vs.length := by
    have := (List.getElem?_eq_some_iff.1 he).1
    omega
   exact ⟨vs[i], List.getElem?_eq_getElem hi, trivial⟩
theorem fin_catch {C : CallFn} (hC : CallOK P C) {fn fg : Func} {nt L : Nat} {gd g1 : Gh} {osd os1 : List Obj} {w1 : World} {frd fr1 : Fr} {a1 : Act} {s : CSpec} {fa fb : Array Value} {bs0 : List Nat}
 (hS : Stands ({ target := .fn (.func s.f) fb, args := fa } :: (bs0.map fun b => { target := .collected b, args := #[] }), false) L B w0 nt Fence.wide gd osd g1 os1 fr1 a1 w1) (E0 : Ext g os gd osd) (K0 : Kept L g os gd osd)
 (m2 : bs0.Nodup) (m3 : ∀ b ∈ bs0, gd.df b ∧ ¬ g.df b) (hA : RVs gd osd (evs frd s.A) fa.toList) (hB : RVs gd osd (evs frd s.B) fb.toList) (hkeep : ∀ x ∈ s.A ++ s.B, x.ev fr1 = x.ev frd ∨ x.ev fr1 = .junk)
 (hfg : P.funcs[s.f]? = some fg) (hbg : fg.body.isSome = true) (hng : (fg.name == "runtime.NumGoroutine") = false) (hlt : s.f < 1000000) {r : EV} {h2 : Hp} (hcall : C (defNo + s.f) (evs fr1 (s.A ++ s.B ++ [.v pagg])) ⟨os1, L⟩ = some (r, h2))
 {res : List Res} (hres : compRes P fn.results.toList = some res) {rvs rvs2 : List EV} (hrv : resultsOf fr1 h2 res = some rvs) {share : Bool} {os2 : List Obj} (hsh : (if share then shareVs h2.lim rvs h2.objs else some (rvs, h2.objs)) = some (rvs2, os2)) :
 LeavesInM Fence.wide 0 P fn a1.tmps (RetW L B w0 g os os2 (oneEV rvs2)) a1.defers .returning w1 := by
 obtain ⟨ms, m0, ⟨bs, q1, q2, q3⟩, _⟩ := hS.marks
 rw [m0, q1]
 refine leaves_tail bs g1 w1 hS.inv q2 (fun b hb => (q3 b hb).1) fun df w2 hI2 hdf => ?_
 obtain ⟨body, hbody⟩ := Option.isSome_iff_exists.1 hbg
 have hrun : (callFunc s.f (fa ++ fb)).run P w2 = .ok (.enter s.f (fa ++ fb)) w2 := by
  have hn' : fg.name ≠ "runtime.NumGoroutine" := by simpa using hng
  simp [callFunc, hfg, hn', hbody]
 have E1 : Ext gd osd (g1.defs df) os1 := hS.ext.trans (Ext.defs g1 os1 df)
 have hargs : RVs (g1.defs df) os1 (evs fr1 (s.A ++ s.B)) (fa.toList ++ fb.toList) := by
  have hd := RVs_append hA hB
  have hd2 := RVs.mono E1 _ _ hd
  refine RVs_weak hd2 (by simp [evs]) fun i e he => ?_
  simp only [evs, List.getElem?_map, Option.map_eq_some_iff] at he
  obtain ⟨x, hx, rfl⟩ := he
  rcases hkeep x (List.mem_of_getElem? hx) with q | q
  · refine .inl ?_
    rw [q]
    have : evs frd s.A ++ evs frd s.B = evs frd (s.A ++ s.B) := by simp [evs]
    rw [this]
    simp only [evs, List.getElem?_map, hx, Option.map_some]
  · exact .inr q
 have e1 : evs fr1 (s.A ++ s.B ++ [.v pagg]) = evs fr1 (s.A ++ s.B) ++ [pagg] := by simp [evs, X.ev]
 rw [e1] at hcall
 obtain ⟨k1, k2⟩ := hC.ends B w0 w2 (g1.defs df) os1 L s.f _ _ r h2 hlt hI2 hargs hcall
 have e2 : (fa.toList ++ fb.toList).toArray = fa ++ fb := by simp
 rw [e2] at k2
 refine ⟨by simp, .inr ⟨fun q => (by cases q), .func s.f, fb, s.f, fa ++ fb, rfl, ?_, fun g' _ => trivial, CallsDIn.mono k2 fun e u' w3 hq => ?_⟩⟩
 · simpa [invoke] using hrun
 · obtain ⟨v, rfl, rfl, g2, p1, p2, p3, _⟩ := hq
   obtain ⟨os3, lim3⟩ := h2
   have E2 := (E0.trans E1).trans p2
   refine fin_marks p1 E2 ((K0.trans E0 (show Kept L gd osd (g1.defs df) os1 from ⟨hS.kept.old, fun b hb => ?_⟩)).trans (E0.trans E1) p3) ((hS.fr.mono (Ext.defs g1 os1 df)).mono p2) m2 (fun b hb => ⟨p3.df b ?_, (m3 b hb).2⟩) hres hrv hsh
   · exact hdf b (hS.kept.df b hb) fun hbs => (q3 b hbs).2 hb
   · exact hdf b (hS.kept.df b (m3 b hb).1) fun hbs => (q3 b hbs).2 (m3 b hb).1
end Dk
namespace Dk
open Go Go.RowKit
variable [Globs] [SiteRel] {P : Program} {B : Nat} {w0 w : World} {g : Gh} {os : List Obj}
omit [Globs] [SiteRel] in
theorem exec_seq_ops {C : CallFn} {l : List Step} {b : DC} {s : St} {o : Out} (h : exec C (.seq (.ops l) b) s = some o) : ∃ fr2 h2, runSteps C l s.1 s.2 = some (fr2, h2) ∧ exec C b (fr2, h2) = some o := by
 simp only [exec] at h
 split at h
 · rename_i fr2 h2 q
   split at q
   · rename_i fr3 h3 r
     cases q
     exact ⟨_, _, r, h⟩
   · cases q
 · rename_i hne
   split at h
   · rename_i fr3 h3 r
     cases h
     exact (hne fr3 h3 (by rw [r])).elim
   · cases h
omit [Globs] [SiteRel] in
theorem runSteps_one {C : CallFn} {s : Step} {fr fr2 : Fr} {h h2 : Hp} (hg : s.guard = none) (e : runSteps C [s] fr h = some (fr2, h2)) : ∃ v, runOp C s.op fr h = some (v, h2) ∧ still fr h2 s.chk = true ∧ fr2 = fr.put s.dst v := by
 simp only [runSteps] at e
 split at e
 · rename_i fr3 h3 q
   cases e
   rcases runStep_cases q with ⟨_, v, q1, q2, q3⟩ | ⟨q1, _⟩
   · exact ⟨v, q1, q2, q3⟩
   · rw [hg] at q1; cases q1
 · cases e
omit [Globs] [SiteRel] in
theorem see_ok {C : CallFn} {s : CSpec} {t : Nat} {fr fr2 : Fr} {h h2 : Hp} (e : runSteps C [seeStep s t] fr h = some (fr2, h2)) : fr2 = fr ∧ h2 = h ∧ fr.get t = .fn (.func s.f) (evs fr s.A) (evs fr s.B) := by
 obtain ⟨v, q1, q2, q3⟩ := runSteps_one rfl e
 simp [seeStep, runOp, DOp.kind, look] at q1
 obtain ⟨_, rfl⟩ := q1
 refine ⟨q3, rfl, ?_⟩
 simp only [seeStep, still, look, Bool.and_true, Bool.false_or] at q2
 exact (EV.eqb_eq _ _ q2).symm
theorem range_map {α : Type} {ops : Array α} {pre : List α} {o : α} {n : Nat} (h1 : ops.toList = pre ++ [o]) (h2 : ops.size = n + 1) : (List.range n).map (ops[·]?) = pre.map some ∧ ops[n]? = some o := by
 have hl : pre.length = n := by
  have := congrArg List.length h1
  simp at this
  omega
 have hg : ∀ i : Nat, ops[i]? = (pre ++ [o])[i]? := fun i => by rw [← h1]; simp
 constructor
 · apply List.ext_getElem?
   intro i
   simp only [List.getElem?_map]
   by_cases hi : i < n
   · rw [List.getElem?_range hi, Option.map_some, hg i, List.getElem?_append_left (by omega), List.getElem?_eq_getElem (by omega)]
     rfl
   · rw [List.getElem?_eq_none (by simp; omega), List.getElem?_eq_none (by omega)]
     rfl
 · rw [hg n, ← hl, List.getElem?_append_right (Nat.le_refl _)]
   simp
end Dk
namespace Dk
open Go Go.RowKit
variable [Globs] [SiteRel] {P : Program} {B : Nat} {w0 w : World} {g : Gh} {os : List Obj}
omit [Globs] [SiteRel] in
theorem body_split {C : CallFn} {d : DFn} (hsha : d.sha = false) (hloc : d.loc = false) {args : List EV} {os : List Obj} {lim : Nat} {r : EV} {h' : Hp} (h : body C d args ⟨os, lim⟩ = some (r, h')) :
 args.length = d.np ∧ ∃ e fr1 h1 rvs rvs2 os2, exec C d.body (args0 0 args, ⟨os, lim⟩) = some (e, fr1, h1) ∧ (∀ i, e ≠ .exit i) ∧ resultsOf fr1 h1 d.res = some rvs ∧ (if d.share then shareVs h1.lim rvs h1.objs else some (rvs, h1.objs)) = some (rvs2, os2) ∧ r = oneEV rvs2 ∧ h' = ⟨os2, lim⟩ := by
 unfold body shareArgs at h
 rw [hsha] at h
 simp only [Bool.false_eq_true, if_false] at h
 unfold body0 at h
 split at h
 · rename_i hlen
   rw [hloc] at h
   simp only [Bool.false_eq_true, if_false] at h
   split at h
   · cases h
   · rename_i e fr1 h1 hne hex
     split at h
     · cases h
     · rename_i rvs hrv
       split at h
       · cases h
       · rename_i rvs2 os2 hsh
         cases h
         exact ⟨hlen, e, fr1, h1, rvs, rvs2, os2, hex, fun i q => hne i q, hrv, hsh, rfl, rfl⟩
   · cases h
 · cases h
def plainOp : Op → Bool
 | .move _ | .assign _ | .alloc _ | .store .. | .extract .. | .typeAssert .. | .load .. | .build .. | .fieldAddr .. | .field .. => true
 | _ => false
omit [Globs] [SiteRel] in
theorem plain_run {o : Oper} (h : plainOp o.op = true) {ρ : Operand → Value} {x : Next} {w' : World} (hr : (execOp ρ o).run P w = .ok x w') : (∃ u, x = .value u) ∨ x = .skip := by
 have hv : ∀ (s : Sem Value), ((do pure (.value (← s)) : Sem Next)).run P w = .ok x w' → ∃ u, x = .value u := by
  intro s h
  simp only [Sem.run_bind] at h
  cases hs : s.run P w with
  | ok u w1 => rw [hs] at h; simp only [Result.andThen_ok, Sem.run_pure, Result.ok.injEq] at h; exact ⟨u, h.1.symm⟩
  | halt u w1 => rw [hs] at h; cases h
 have hu : ∀ (s : Sem Unit), ((do s; pure .skip : Sem Next)).run P w = .ok x w' → x = .skip := by
  intro s h
  simp only [Sem.run_bind] at h
  cases hs : s.run P w with
  | ok u w1 => rw [hs] at h; simp only [Result.andThen_ok, Sem.run_pure, Result.ok.injEq] at h; exact h.1.symm
  | halt u w1 => rw [hs] at h; cases h
 obtain ⟨dst, op, type, pos, after, guard⟩ := o
 cases op <;> simp only [plainOp] at h <;> first | (cases h; done) | skip
 all_goals simp only [execOp] at hr
 all_goals first
  | exact .inl (hv _ hr)
  | exact .inr (hu _ hr)
  | (simp only [Sem.run_pure, Result.ok.injEq] at hr; exact .inl ⟨_, hr.1.symm⟩)
omit [Globs] [SiteRel] in
theorem opsS {F : Fence} {n : Nat} {ops : Array Oper} (hro : F.round = none) {cs : List Frame} {K : Act → World → Prop} {Q : Exit → Act → List Frame → World → Prop} (hQ : ∀ a w, K a w → Q .normal a cs w) : ∀ (l : List Nat) (a : Act) (w : World), (∀ i ∈ l, ∀ o, ops[i]? = some o → plainOp o.op = true) →
 wpOpsIn F n P ops (fun e a w => e = .normal ∧ K a w) l a w → wpOpsSIn F n P ops Q l a cs w
 | [], a, w, _, h => hQ a w h.2
 | i :: l, a, w, hp, h => by
  simp only [wpOpsIn, wpOpsSIn] at h ⊢
  cases ho : ops[i]? with
  | none =>
   simp only [ho] at h
   exact opsS hro hQ l a w (fun j hj => hp j (by simp [hj])) h
  | some o =>
   simp only [ho] at h
   have ih := fun a w => opsS (n := n) (ops := ops) hro hQ l a w (fun j hj => hp j (by simp [hj]))
   by_cases hw : Region.wanted o (yielded ops a.tmps) = true
   · rw [if_pos hw] at h
     refine ⟨h.1, ?_⟩
     rw [if_pos hw]
     have h2 := h.2
     rw [hro, Oper.semAt_none] at h2
     cases hr : (execOp a.eval o).run P w with
     | ok x w' =>
      rw [hr] at h2
      rcases plain_run (hp i (by simp) o ho) hr with ⟨u, rfl⟩ | rfl
      · exact ih _ _ h2
      · exact ih _ _ h2
     | halt x w' =>
      rw [hr] at h2
      cases x <;> simp [Oper.uponIn] at h2
   · rw [if_neg hw] at h
     refine ⟨h.1, ?_⟩
     rw [if_neg hw]
     exact ih _ _ h.2
def chkStep (n : Nat) : Step := ⟨some n, .mv (.v (.tup [])), none, [(n, .mv (.v pagg), none)]⟩
def compEnd (P : Program) (dr : DrawFn) (keeps : List (List Nat)) (fn : Func) : Option DFn :=
 match fn.body with
 | some (.seq (.region _ ops false) c2) => match ops.toList with
  | o0 :: rest => match o0.op, o0.guard, o0.dst with
   | .call c, none, some d0 => match c.callee with
    | .builtin .recover => match compList P fn.ntmps ops rest, compCode P fn.ntmps dr c2 keeps, compRes P fn.results.toList with
     | some l, some (c2', []), some rs => if d0 < fn.ntmps ∧ rest.all (fun o => plainOp o.op) = true ∧ fn.params.size + fn.nfree ≤ fn.ntmps ∧ c2'.noRange = true then
      some ⟨fn.params.size + fn.nfree + 1, .seq (.ops [chkStep (fn.params.size + fn.nfree)]) (.seq (.ops (⟨some d0, .mv (.v .nili), none, []⟩ :: l)) c2'), rs, false, false, false⟩ else none
     | _, _, _ => none
    | _ => none
   | _, _, _ => none
  | [] => none
 | _ => none
omit [Globs] [SiteRel] in
theorem chk_ok {C : CallFn} {n : Nat} {fr fr2 : Fr} {h h2 : Hp} (e : runSteps C [chkStep n] fr h = some (fr2, h2)) : fr2 = (n, .tup []) :: fr ∧ h2 = h ∧ fr.get n = pagg := by
 obtain ⟨v, q1, q2, q3⟩ := runSteps_one rfl e
 simp [chkStep, runOp, DOp.kind, look, X.ev] at q1
 obtain ⟨rfl, rfl⟩ := q1
 refine ⟨q3, rfl, ?_⟩
 simp only [chkStep, still, look, Bool.and_true, Bool.false_or, X.ev] at q2
 exact (EV.eqb_eq _ _ q2).symm
theorem goodEnd {n : Nat} {d : DFn} {fn : Func} {dr : DrawFn} {keeps : List (List Nat)} (hf : P.funcs[n]? = some fn) (hD : ∀ C, CallOK P C → DrawOK P C fn.ntmps dr) (hT : SiteOK P fn.ntmps dr)
 (hc : compEnd P dr keeps fn = some d) : GoodFn P (defNo + n) d := by
 unfold compEnd at hc
 split at hc
 · rename_i rid ops c2 hb
   split at hc
   · rename_i o0 rest hops
     split at hc
     · rename_i c d0 h1 h2 h3
       split at hc
       · rename_i h4
         split at hc
         · rename_i l c2' rs hl hc2 hres
           split at hc
           · rename_i hcond
             obtain ⟨k1, k2, k3, k4⟩ := hcond
             cases hc
             have start : ∀ {C : CallFn} {args : List EV} {os : List Obj} {lim : Nat} {r : EV} {h' : Hp}, body C ⟨fn.params.size + fn.nfree + 1, .seq (.ops [chkStep (fn.params.size + fn.nfree)]) (.seq (.ops (⟨some d0, .mv (.v .nili), none, []⟩ :: l)) c2'), rs, false, false, false⟩ args ⟨os, lim⟩ = some (r, h') →
              args.length = fn.params.size + fn.nfree + 1 ∧ (args0 0 args).get (fn.params.size + fn.nfree) = pagg ∧ ∃ e fr1 h1 rvs, exec C (.seq (.ops (⟨some d0, .mv (.v .nili), none, []⟩ :: l)) c2') ((fn.params.size + fn.nfree, .tup []) :: args0 0 args, ⟨os, lim⟩) = some (e, fr1, h1) ∧ (∀ i, e ≠ .exit i) ∧ resultsOf fr1 h1 rs = some rvs ∧ r = oneEV rvs ∧ h' = ⟨h1.objs, lim⟩ := by
              intro C args os lim r h' h
              obtain ⟨hlen, e, fr1, h1, rvs, rvs2, os2, hex, hne, hrv, hsh, rfl, rfl⟩ := body_split rfl rfl h
              obtain ⟨fr2, h2, q1, hx⟩ := exec_seq_ops hex
              obtain ⟨rfl, rfl, q2⟩ := chk_ok q1
              simp only [Bool.false_eq_true, if_false, Option.some.injEq, Prod.mk.injEq] at hsh
              obtain ⟨rfl, rfl⟩ := hsh
              exact ⟨hlen, q2, e, fr1, h1, rvs, hx, hne, hrv, rfl, rfl⟩
             refine ⟨fun C _ _ B w0 w g os lim args vs r h' hI hv h => ?_, fun C hC _ B w0 w g os lim m args vs r h' hm hI hv h => ?_, fun C _ _ B w0 w g os lim m args vs r h' hm hI hv h => ?_, fun C _ _ B w0 w g os lim m args vs x u r h' hm hI hv hx h => ?_⟩
             · obtain ⟨q1, q2, _⟩ := start h
               rw [args0_get] at q2
               simp only [Nat.zero_le, if_true, Nat.sub_zero] at q2
               have hi : fn.params.size + fn.nfree < args.length := by omega
               rw [List.getElem?_eq_getElem hi, Option.getD_some] at q2
               obtain ⟨v, _, hr⟩ := (RVs_get.1 hv).2 _ _ (List.getElem?_eq_getElem hi)
               rw [q2] at hr
               exact hr.elim
             · have hmn : m = n := by omega
               subst hmn
               obtain ⟨q1, q2, e, fr1, hh1, rvs, hx0, hne, hrv, rfl, rfl⟩ := start h
               refine ⟨rfl, ?_⟩
               have hlen : args.length = fn.params.size + fn.nfree := by simpa using q1
               have hl2 := (RVs_get.1 hv).1
               obtain ⟨fr2, h2', r1, hx⟩ := exec_seq_ops hx0
               clear hx0
               simp only [runSteps, runStep, runOp, DOp.kind, look, X.ev, Option.map_some, still, if_true] at r1
               have hS : Stands ([], true) lim B w0 fn.ntmps Fence.wide g os g os ((fn.params.size + fn.nfree, .tup []) :: args0 0 (args ++ [pagg])) { tmps := vs.toArray ++ Array.replicate (fn.ntmps - vs.toArray.size) undef, defers := [] } w := by
                refine ⟨hI, Ext.refl g os, Kept.refl lim g os, fun t _ => ?_, by simp; omega, MarksD.nil ([], true) g g, fun l hl => by cases hl⟩
                simp only [Fr.get]
                split
                · rename_i ht
                  have : Act.eval { tmps := vs.toArray ++ Array.replicate (fn.ntmps - vs.toArray.size) undef, defers := [] } (.tmp t) = undef := by
                   simp only [Act.eval, Array.getD_eq_getD_getElem?]
                   rw [Array.getElem?_append_right (by simp; omega)]
                   rw [Array.getElem?_replicate]
                   split <;> rfl
                  rw [this]
                  exact RV.undef g os
                · rename_i ht
                  rw [args0_get]
                  simp only [Nat.zero_le, if_true, Nat.sub_zero]
                  by_cases htl : t < args.length
                  · rw [List.getElem?_append_left htl]
                    have := args_fr (g := g) (os := os) hv (fn.ntmps - vs.toArray.size) t trivial
                    rw [args0_get] at this
                    simpa only [Nat.zero_le, if_true, Nat.sub_zero] using this
                  · rw [List.getElem?_eq_none (by simp; omega)]
                    trivial
               obtain ⟨g1, hS1⟩ := hS.put (dst := some d0) (fun d hd => by cases hd; exact k1) (r := .nili) (u := .nilIface) ⟨g, hI, Ext.refl g os, Kept.refl _ g os, by simp [RV]⟩
               refine callsDIn_of_wpSIn (F := Fence.wide) (n := 0) hf hb trivial fun c₀ cs hmode => wpSIn_seq (wpSIn_region ?_)
               have hsz : ops.size = rest.length + 1 := by
                have := congrArg List.length hops
                simpa using this
               have hget : ∀ i : Nat, ops[i]? = (o0 :: rest)[i]? := fun i => by rw [← hops]; simp
               rw [hsz, List.range_succ_eq_map]
               have h00 : ops[0]? = some o0 := by rw [hget]; rfl
               simp only [wpOpsSIn, h00]
               refine ⟨fun f _ => trivial, ?_⟩
               have hw : Region.wanted o0 (yielded ops (vs.toArray ++ Array.replicate (fn.ntmps - vs.toArray.size) undef)) = true := by simp [Region.wanted, h2]
               rw [if_pos hw]
               obtain ⟨ccs, hex⟩ := call_builtin (ρ := Act.eval { tmps := vs.toArray ++ Array.replicate (fn.ntmps - vs.toArray.size) undef, defers := [] }) h1 h4
               have hrec : recoverD (c₀ :: cs) = none := by simp [recoverD, hmode]
               rw [hex]
               simp only [builtin, Sem.run_pure, hrec]
               rw [h3]
               refine opsS (K := fun a w => ∃ g' , Stands ([], true) lim B w0 fn.ntmps Fence.wide g os g' h2'.objs fr2 a w ∧ h2'.lim = lim) rfl (fun a w hK => ?_) _ _ _ (fun i hi o ho => ?_) (steps_wp hC (.inl rfl) _ rest l ?_ hl g1 os _ _ w hS1 fr2 h2' r1 fun g' a' w' hS' hl' => ⟨rfl, g', hS', hl'⟩)
               · obtain ⟨g', hS', hl'⟩ := hK
                 obtain ⟨os', lim'⟩ := h2'
                 simp only at hl'
                 subst hl'
                 refine wpSIn_of_wpIn rfl (code_wp hC (hD C hC) hT (.inl rfl) c2 keeps [] c2' hc2 (fun _ => k4) g' os' fr2 a w hS' _ _ _ hx _ fun g2 a2 w2 hS2 hl2' => ?_)
                 obtain ⟨os1, lim1⟩ := hh1
                 obtain ⟨ms, m0, _, m3⟩ := hS2.marks
                 have hnil : a2.defers = [] := by rw [m0, m3 rfl]; rfl
                 obtain ⟨us, hru, hrs⟩ := results_ok (P := P) hS2.inv hS2.fr hres hrv
                 have fin : a2.defers = [] ∧ ∃ u', c₀ :: cs = { c₀ with mode := u' } :: cs ∧ ∃ v, (results fn a2.tmps).run P w2 = .ok v w2 ∧ ∃ v', Ending.returned v = .returned v' ∧ u' = .returning ∧ Went lim' B w0 g os os1 (oneEV rvs) v' w2 :=
                  ⟨hnil, c₀.mode, rfl, _, hru, _, rfl, hmode, g2, hS2.inv, hS2.ext, hS2.kept, one_ok hrs⟩
                 cases e with
                 | normal => exact fin
                 | ret => exact fin
                 | exit i => exact (hne i rfl).elim
               · simp only [List.mem_map] at hi
                 obtain ⟨j, _, rfl⟩ := hi
                 rw [hget] at ho
                 simp only [List.getElem?_cons_succ] at ho
                 exact List.all_eq_true.1 k2 o (List.mem_of_getElem? ho)
               · apply List.ext_getElem?
                 intro i
                 simp only [List.map_map, List.getElem?_map]
                 by_cases hi : i < rest.length
                 · rw [List.getElem?_range hi, Option.map_some, List.getElem?_eq_getElem hi]
                   simp only [Function.comp, hget, List.getElem?_cons_succ, List.getElem?_eq_getElem hi, Option.map_some]
                 · rw [List.getElem?_eq_none (by simp; omega), List.getElem?_eq_none (by omega)]
                   rfl
             · obtain ⟨q1, q2, _⟩ := start h
               have : args.length = fn.params.size + fn.nfree := by simpa using q1
               rw [args0_get, ← this] at q2
               simp [pagg, pagm] at q2
             · obtain ⟨q1, q2, _⟩ := start h
               have : args.length + 1 = fn.params.size + fn.nfree := by simpa using q1
               rw [args0_get, ← this] at q2
               simp [pagg, pagp] at q2
           · cases hc
         · cases hc
       · cases hc
     · cases hc
   · cases hc
 · cases hc
end Dk
namespace Dk
open Go Go.RowKit
variable [Globs] [SiteRel] {D0 : List Deferred × Bool} {P : Program} {B : Nat} {w0 w : World} {g : Gh} {os : List Obj}
def DOp.heapy : DOp → Bool
 | .ld .. => true
 | .look .. => true
 | .len k _ => k == 2
 | _ => false
theorem look_pure {d : DOp} (hd : d.heapy = false) (fr : Fr) (h h' : Hp) : look d fr h = look d fr h' := by
 cases d <;> simp only [DOp.heapy, look, Bool.true_eq_false] at *
 case len k x =>
  have hk : k ≠ 2 := by simpa using hd
  have : lenOf k (x.ev fr) h = lenOf k (x.ev fr) h' := by
   unfold lenOf
   split <;> first | rfl | exact absurd rfl hk
  rw [this]
theorem arr_grow {os : List Obj} {lim id gen : Nat} {a : Arr} (h : (Hp.mk os lim).arr id gen = some a) (ob : Obj) : (Hp.mk (os ++ [ob]) lim).arr id gen = some a := by
 unfold Hp.arr at *
 cases ho : os[id]? with
 | none => simp [ho] at h
 | some x =>
  simp only [ho] at h
  have : (os ++ [ob])[id]? = some x := by rw [List.getElem?_append_left (List.getElem?_eq_some_iff.1 ho).1]; exact ho
  simp only [this]
  exact h
theorem mapOf_grow {os : List Obj} {lim id : Nat} {es : List (PD × EV)} (h : (Hp.mk os lim).mapOf id = some es) (ob : Obj) : (Hp.mk (os ++ [ob]) lim).mapOf id = some es := by
 unfold Hp.mapOf at *
 cases ho : os[id]? with
 | none => simp [ho] at h
 | some x =>
  simp only [ho] at h
  have : (os ++ [ob])[id]? = some x := by rw [List.getElem?_append_left (List.getElem?_eq_some_iff.1 ho).1]; exact ho
  simp only [this]
  exact h
theorem look_grow {d : DOp} {fr : Fr} {os : List Obj} {lim : Nat} {v : EV} (h : look d fr ⟨os, lim⟩ = some v) (ob : Obj) : look d fr ⟨os ++ [ob], lim⟩ = some v := by
 by_cases hd : d.heapy = true
 · cases d <;> simp only [DOp.heapy, Bool.false_eq_true] at hd
   case ld ag n x =>
    simp only [look, loadAt] at *
    split at h
    · split at h
      · rename_i a ha
        rw [arr_grow ha ob]
        exact h
      · cases h
    · exact h
    · cases h
   case look ck z ok m k =>
    simp only [look] at *
    cases hm : mapGet ck z (m.ev fr) (k.ev fr) ⟨os, lim⟩ with
    | none => simp [hm] at h
    | some r =>
     have : mapGet ck z (m.ev fr) (k.ev fr) ⟨os ++ [ob], lim⟩ = some r := by
      unfold mapGet at *
      (repeat' split at hm) <;> first | (cases hm; done) | skip
      all_goals first | (simp_all [mapOf_grow _ ob]; done) | (simp_all [mapOf_grow _ ob]; assumption)
     rw [hm] at h
     rw [this]
     exact h
   case len k x =>
    simp only [look] at *
    cases hm : lenOf k (x.ev fr) ⟨os, lim⟩ with
    | none => simp [hm] at h
    | some r =>
     have : lenOf k (x.ev fr) ⟨os ++ [ob], lim⟩ = some r := by
      unfold lenOf at *
      split at hm <;> first | exact hm | skip
      split at hm
      · rename_i es he
        rw [mapOf_grow he ob]
        exact hm
      · cases hm
     rw [hm] at h
     rw [this]
     exact h
 · rw [← look_pure (by simpa using hd) fr ⟨os, lim⟩]; exact h
def chkOf (P : Program) (nt : Nat) (ops : Array Oper) (m : Nat) (i : Nat) : Option (List Chk) :=
 if m.testBit i then some [] else
 match ops[i]? with
 | none => none
 | some o => match compStep P nt ops o with
  | none => none
  | some s => match s.op.kind with
   | 0 => if s.op.heapy then match s.dst with
    | some d => some [(d, s.op, s.guard)]
    | none => none
    else some []
   | 1 => if s.op.isNils then none else some []
   | _ => none
def chksOf (P : Program) (nt : Nat) (ops : Array Oper) (m : Nat) : List Nat → Option (List Chk)
 | [] => some []
 | i :: r => match chkOf P nt ops m i, chksOf P nt ops m r with
  | some a, some b => some (a ++ b)
  | _, _ => none
def rewOf (ops : Array Oper) (b : Nat → Nat) (j : Nat) : Bool :=
 match (ops[j]?).bind (·.dst) with
 | some t => (List.range (j + 1)).any fun i => match ops[i]? with
  | some o => (o.looksAt ops).contains t && !(b i).testBit j
  | none => false
 | none => false
def rewList (ops : Array Oper) (b : Nat → Nat) : List Nat := (List.range ops.size).filter (rewOf ops b)
def isEffect (P : Program) (ops : Array Oper) (rl : List Nat) (i : Nat) : Bool :=
 match ops[i]? with
 | some o => match compOp P o with
  | some d => d.kind == 2 || rl.contains i
  | none => false
 | none => false
def placeOk (P : Program) (ops : Array Oper) (b : Nat → Nat) (rl : List Nat) (done : List Nat) (i : Nat) (o : Oper) : Bool :=
 !done.contains i &&
 ((o.looksAt ops).all fun t => (List.range ops.size).all fun j => match ops[j]? with
  | some oj => oj.dst != some t || (done.contains j && (b i).testBit j) || (!done.contains j && rl.contains j && (j == i || (b j).testBit i))
  | none => true) &&
 (done.all fun e => !isEffect P ops rl e || (b i).testBit e)
def drawGo (P : Program) (nt : Nat) (ops : Array Oper) (b : Nat → Nat) (rl : List Nat) : List Nat → List Nat → Option (List Step)
 | done, [] => if (List.range ops.size).all (fun i => done.contains i) then some [] else none
 | done, i :: r => match ops[i]? with
  | none => none
  | some o => match compStep P nt ops o with
   | none => none
   | some s => if placeOk P ops b rl done i o && (s.op.kind != 1 || !rl.contains i) then
    match (if s.op.kind = 2 then chksOf P nt ops (b i) done else some []) with
    | some cs => match drawGo P nt ops b rl (i :: done) r with
     | some l => some ({ s with chk := cs } :: l)
     | none => none
    | none => none
    else none
def masksOk (ops : Array Oper) (b : Nat → Nat) : Bool :=
 ((List.range ops.size).all fun i => match ops[i]? with
  | some o => (o.after.all fun e => !Region.binds .any e || decide (e.on < i)) &&
   (List.range ops.size).all (fun j => !(b i).testBit j || o.after.any fun e => Region.binds .any e && (e.on == j || (b e.on).testBit j))
  | none => true) &&
 ((List.range ops.size).all fun i => (List.range i).all fun j => match ops[i]?, ops[j]? with
  | some oi, some oj => oi.dst.isNone || oi.dst != oj.dst
  | _, _ => true)
structure Masks (ops : Array Oper) (b : Nat → Nat) : Prop where
 back : ∀ (i : Nat) (o : Oper), ops[i]? = some o → ∀ e ∈ o.after, Region.binds .any e = true → e.on < i
 says : ∀ (i : Nat) (o : Oper), ops[i]? = some o → ∀ j, j < ops.size → (b i).testBit j = true → ∃ e ∈ o.after, Region.binds .any e = true ∧ (e.on = j ∨ (b e.on).testBit j = true)
 dsts : ∀ (i j : Nat) (oi oj : Oper) (d : Nat), ops[i]? = some oi → ops[j]? = some oj → oi.dst = some d → oj.dst = some d → i = j
theorem masks_of {ops : Array Oper} {b : Nat → Nat} (h : masksOk ops b = true) : Masks ops b := by
 simp only [masksOk, Bool.and_eq_true, List.all_eq_true, List.mem_range] at h
 obtain ⟨h1, h2⟩ := h
 have lt : ∀ {i : Nat} {o : Oper}, ops[i]? = some o → i < ops.size := fun h => (Array.getElem?_eq_some_iff.1 h).1
 refine ⟨fun i o ho e he hb => ?_, fun i o ho j hj ht => ?_, ?_⟩
 · have := h1 i (lt ho)
   simp only [ho, Bool.and_eq_true, Array.all_eq_true_iff_forall_mem, Bool.or_eq_true, decide_eq_true_eq] at this
   exact (this.1 e he).resolve_left (by simp [hb])
 · have := h1 i (lt ho)
   simp only [ho, Bool.and_eq_true, List.all_eq_true, List.mem_range, Bool.or_eq_true] at this
   have q := (this.2 j hj).resolve_left (by simp [ht])
   obtain ⟨e, he, hb⟩ := Array.any_eq_true'.1 q
   simp only [Bool.and_eq_true, Bool.or_eq_true, beq_iff_eq] at hb
   exact ⟨e, he, hb.1, hb.2⟩
 · have key : ∀ (i j : Nat) (oi oj : Oper) (d : Nat), j < i → ops[i]? = some oi → ops[j]? = some oj → oi.dst = some d → oj.dst = some d → False := by
    intro i j oi oj d hlt hi hj hdi hdj
    have := h2 i (lt hi) j hlt
    simp only [hi, hj, hdi, hdj] at this
    simp at this
   intro i j oi oj d hi hj hdi hdj
   rcases Nat.lt_trichotomy i j with q | q | q
   · exact (key j i oj oi d q hj hi hdj hdi).elim
   · exact q
   · exact (key i j oi oj d q hi hj hdi hdj).elim
structure Placed (P : Program) (nt : Nat) (ops : Array Oper) (b : Nat → Nat) (rl : List Nat) (done : List Nat) : Prop where
 comp : ∀ i ∈ done, ∃ o s, ops[i]? = some o ∧ compStep P nt ops o = some s
 deps : ∀ i ∈ done, ∀ o, ops[i]? = some o → ∀ t ∈ o.looksAt ops, ∀ (j : Nat) (oj : Oper), ops[j]? = some oj → oj.dst = some t → (j ∈ done ∧ j ≠ i ∧ (b i).testBit j = true) ∨ (rl.contains j = true ∧ (j = i ∨ (b j).testBit i = true))
theorem place_spec {b : Nat → Nat} {rl : List Nat} {ops : Array Oper} {done : List Nat} {i : Nat} {o : Oper} (h : placeOk P ops b rl done i o = true) :
 i ∉ done ∧ (∀ t ∈ o.looksAt ops, ∀ (j : Nat) (oj : Oper), ops[j]? = some oj → oj.dst = some t → (j ∈ done ∧ (b i).testBit j = true) ∨ (rl.contains j = true ∧ (j = i ∨ (b j).testBit i = true))) ∧ ∀ e ∈ done, isEffect P ops rl e = true → (b i).testBit e = true := by
 simp only [placeOk, Bool.and_eq_true, Bool.not_eq_true', List.all_eq_true, List.mem_range] at h
 obtain ⟨⟨h1, h2⟩, h3⟩ := h
 refine ⟨by simpa using h1, fun t ht j oj hj hd => ?_, fun e he hf => ?_⟩
 · have := h2 t ht j (Array.getElem?_eq_some_iff.1 hj).1
   simp only [hj, hd, Bool.or_eq_true, Bool.and_eq_true, beq_iff_eq] at this
   rcases this with (this | this) | this
   · simp at this
   · exact .inl ⟨by simpa using this.1, this.2⟩
   · exact .inr ⟨this.1.2, this.2⟩
 · have := h3 e he
   simpa [hf] using this
theorem Placed.cons {nt : Nat} {ops : Array Oper} {b : Nat → Nat} {rl : List Nat} {done : List Nat} (h : Placed P nt ops b rl done) {i : Nat} {o : Oper} {s : Step} (ho : ops[i]? = some o) (hs : compStep P nt ops o = some s) (hp : placeOk P ops b rl done i o = true) : Placed P nt ops b rl (i :: done) := by
 obtain ⟨h1, h2, h3⟩ := place_spec hp
 refine ⟨fun k hk => ?_, fun k hk ok hok t ht j oj hj hd => ?_⟩
 · rcases List.mem_cons.1 hk with rfl | hk
   · exact ⟨o, s, ho, hs⟩
   · exact h.comp k hk
 · rcases List.mem_cons.1 hk with rfl | hk
   · rw [ho] at hok; cases hok
     rcases h2 t ht j oj hj hd with ⟨q1, q2⟩ | q
     · exact .inl ⟨List.mem_cons_of_mem _ q1, fun e => h1 (e ▸ q1), q2⟩
     · exact .inr q
   · rcases h.deps k hk ok hok t ht j oj hj hd with ⟨q1, q2, q3⟩ | q
     · exact .inl ⟨List.mem_cons_of_mem _ q1, q2, q3⟩
     · exact .inr q
theorem drawGo_cons {nt : Nat} {ops : Array Oper} {b : Nat → Nat} {rl : List Nat} {done : List Nat} {i : Nat} {r : List Nat} {ss : List Step} (h : drawGo P nt ops b rl done (i :: r) = some ss) :
 ∃ o s cs l, ops[i]? = some o ∧ compStep P nt ops o = some s ∧ (placeOk P ops b rl done i o = true ∧ (s.op.kind = 1 → rl.contains i = false)) ∧ (if s.op.kind = 2 then chksOf P nt ops (b i) done else some []) = some cs ∧ drawGo P nt ops b rl (i :: done) r = some l ∧ ss = { s with chk := cs } :: l := by
 simp only [drawGo] at h
 split at h
 · cases h
 · rename_i o ho
   split at h
   · cases h
   · rename_i s hs
     split at h
     · rename_i hp
       split at h
       · rename_i cs hcs
         split at h
         · rename_i l hl
           cases h
           simp only [Bool.and_eq_true, Bool.or_eq_true, bne_iff_ne, ne_eq, Bool.not_eq_true'] at hp
           exact ⟨o, s, cs, l, ho, hs, ⟨hp.1, fun q => hp.2.resolve_left (fun n => n q)⟩, hcs, hl, rfl⟩
         · cases h
       · cases h
     · cases h
theorem drawGo_all {nt : Nat} {ops : Array Oper} {b : Nat → Nat} {rl : List Nat} : ∀ {r done : List Nat} {ss : List Step}, drawGo P nt ops b rl done r = some ss → ∀ i, i < ops.size → i ∈ done ∨ i ∈ r
 | [], done, ss, h, i, hi => by
  simp only [drawGo] at h
  split at h
  · rename_i hc
    rw [List.all_eq_true] at hc
    exact .inl (by simpa using hc i (by simpa using hi))
  · cases h
 | k :: r, done, ss, h, i, hi => by
  obtain ⟨o, s, cs, l, ho, hs, hp, hcs, hl, rfl⟩ := drawGo_cons h
  rcases drawGo_all hl i hi with q | q
  · rcases List.mem_cons.1 q with rfl | q
    · exact .inr (by simp)
    · exact .inl q
  · exact .inr (by simp [q])
theorem drawGo_behind {nt : Nat} {ops : Array Oper} {b : Nat → Nat} {rl : List Nat} : ∀ {r done : List Nat} {ss : List Step}, drawGo P nt ops b rl done r = some ss → ∀ e ∈ done, isEffect P ops rl e = true → ∀ i ∈ r, (b i).testBit e = true
 | [], _, _, _, _, _, _, i, hi => by cases hi
 | k :: r, done, ss, h, e, he, hf, i, hi => by
  obtain ⟨o, s, cs, l, ho, hs, hp, hcs, hl, rfl⟩ := drawGo_cons h
  rcases List.mem_cons.1 hi with rfl | hi
  · exact (place_spec hp.1).2.2 e he hf
  · exact drawGo_behind hl e (List.mem_cons_of_mem _ he) hf i hi
theorem isEffect_of {ops : Array Oper} {rl : List Nat} {nt i : Nat} {o : Oper} {s : Step} (ho : ops[i]? = some o) (hs : compStep P nt ops o = some s) : isEffect P ops rl i = (decide (s.op.kind = 2) || rl.contains i) := by
 obtain ⟨_, _, h3, _⟩ := compStep_ok hs
 simp only [isEffect, ho, h3]
 rfl
def Agree (ops : Array Oper) (o : Oper) (a b : Fr) : Prop := ∀ t ∈ o.looksAt ops, a.get t = b.get t
def Recipe (P : Program) (nt : Nat) (ops : Array Oper) (rl : List Nat) (lim lo : Nat) (g : Gh) (os : List Obj) (fr : Fr) (ids : Nat → Option Nat) (i : Nat) : Prop :=
 ∃ o s, ops[i]? = some o ∧ compStep P nt ops o = some s ∧ (s.op.kind ≠ 2 ∧ rl.contains i = false) ∧
  ((GuardIs fr s.guard false ∧ ∀ d, o.dst = some d → fr.get d = .tup []) ∨
   (GuardIs fr s.guard true ∧ s.op.kind = 0 ∧ ∃ fri v, Agree ops o fri fr ∧ look s.op fri ⟨os, lim⟩ = some v ∧ ∀ d, o.dst = some d → fr.get d = v) ∨
   (GuardIs fr s.guard true ∧ s.op.kind = 1 ∧ ∃ fri f ob id, Agree ops o fri fr ∧ makeObj s.op fri = some (f, ob) ∧ ids i = some id ∧ os[id]? = some ob ∧ lo ≤ id ∧ g.ph id = none ∧ (s.op.isNils = true → ¬ g.pend id) ∧ (s.op.isNils = false → g.pend id) ∧ ∀ d, o.dst = some d → fr.get d = f id))
def Left (ops : Array Oper) (done : List Nat) (listed : Array Bool) (t : Nat) : Prop :=
 ∀ i ∈ done, listed.getD i true = false → ∀ o, ops[i]? = some o → o.dst ≠ some t
def Side (D0 : List Deferred × Bool) (F : Fence) (g0 g : Gh) (os : List Obj) (l : List Deferred) : Prop := MarksD D0 g0 g l ∧ ∀ l, F.round = some l → ∃ id x y lo, g.ph id = some (l, x, y) ∧ os[id]? = some (.loop lo)
theorem Side.mono {D0 : List Deferred × Bool} {F : Fence} {g0 g g' : Gh} {os os' : List Obj} {l : List Deferred} (h : Side D0 F g0 g os l) (hE : Ext g os g' os') (hd : ∀ b, g.df b → g'.df b) : Side D0 F g0 g' os' l := ⟨h.1.mono hd, rnd_mono h.2 hE⟩
structure Amid (D0 : List Deferred × Bool) (P : Program) (B : Nat) (w0 : World) (nt : Nat) (F : Fence) (g0 : Gh) (os0 : List Obj) (lim : Nat) (ops : Array Oper) (b : Nat → Nat) (rl : List Nat) (done : List Nat) (listed : Array Bool) (ids : Nat → Option Nat) (g : Gh) (os : List Obj) (fr : Fr) (a : Act) (w : World) : Prop where
 inv : Inv B w0 g os w
 ext : Ext g0 os0 g os
 kept : Kept lim g0 os0 g os
 frs : FrOn (Left ops done listed) g os fr a
 size : a.tmps.size = nt
 side : Side D0 F g0 g os a.defers
 recipes : ∀ i ∈ done, listed.getD i true = false → Recipe P nt ops rl lim os0.length g os fr ids i
 ids_inj : ∀ i j id, ids i = some id → ids j = some id → i = j
 ids_lt : ∀ i id, ids i = some id → id < os.length
 lsize : listed.size = ops.size
 sub : ∀ i, listed.getD i false = true → i ∈ done
 closed : ∀ i, listed.getD i false = true → ∀ j, j < ops.size → (b i).testBit j = true → listed.getD j false = true
 placed : Placed P nt ops b rl done
theorem guard_congr {fr fr' : Fr} {ops : Array Oper} {nt : Nat} {o : Oper} {s : Step} (hs : compStep P nt ops o = some s) (h : Agree ops o fr fr') {x : Bool} (hg : GuardIs fr s.guard x) : GuardIs fr' s.guard x := by
 obtain ⟨_, _, _, _, h5⟩ := compStep_ok hs
 cases hgd : o.guard with
 | none =>
  rw [hgd] at h5
  simp only [GuardOf] at h5
  rw [h5] at hg ⊢
  exact hg
 | some gw =>
  obtain ⟨gi, want⟩ := gw
  rw [hgd] at h5
  simp only [GuardOf] at h5
  obtain ⟨t, ht, hlt, h6⟩ := h5
  rw [h6] at hg ⊢
  simp only [GuardIs] at hg ⊢
  have hm : t ∈ o.looksAt ops := by
   unfold Oper.looksAt
   rw [hgd]
   simp only
   rw [ht]
   simp
  rw [← h t hm]
  exact hg
theorem Agree.trans {ops : Array Oper} {o : Oper} {a b c : Fr} (h : Agree ops o a b) (k : Agree ops o b c) : Agree ops o a c := fun t ht => (h t ht).trans (k t ht)
theorem Recipe.frame {nt lim lo : Nat} {ops : Array Oper} {rl : List Nat} {fr fr' : Fr} {ids : Nat → Option Nat} {i : Nat} (h : Recipe P nt ops rl lim lo g os fr ids i) (h1 : ∀ o, ops[i]? = some o → Agree ops o fr fr') (h2 : ∀ o d, ops[i]? = some o → o.dst = some d → fr'.get d = fr.get d) : Recipe P nt ops rl lim lo g os fr' ids i := by
 obtain ⟨o, s, ho, hs, hk, h⟩ := h
 refine ⟨o, s, ho, hs, hk, ?_⟩
 rcases h with ⟨q1, q2⟩ | ⟨q1, q2, fri, v, q3, q4, q5⟩ | ⟨q1, q2, fri, f, ob, id, q3, q4, q5, q6, q7, q8, q9, q10, q11⟩
 · exact .inl ⟨guard_congr hs (h1 o ho) q1, fun d hd => by rw [h2 o d ho hd]; exact q2 d hd⟩
 · exact .inr (.inl ⟨guard_congr hs (h1 o ho) q1, q2, fri, v, q3.trans (h1 o ho), q4, fun d hd => by rw [h2 o d ho hd]; exact q5 d hd⟩)
 · exact .inr (.inr ⟨guard_congr hs (h1 o ho) q1, q2, fri, f, ob, id, q3.trans (h1 o ho), q4, q5, q6, q7, q8, q9, q10, fun d hd => by rw [h2 o d ho hd]; exact q11 d hd⟩)
theorem Placed.fresh {nt : Nat} {ops : Array Oper} {b : Nat → Nat} {rl : List Nat} {done : List Nat} (hP : Placed P nt ops b rl done) (hM : Masks ops b) {i : Nat} {o : Oper} (ho : ops[i]? = some o) (hi : i ∉ done) {k : Nat} (hk : k ∈ done) (hq : rl.contains i = false ∨ (b i).testBit k = false) (fr : Fr) (v : EV) :
 (∀ ok, ops[k]? = some ok → Agree ops ok fr (fr.put o.dst v)) ∧ ∀ ok d, ops[k]? = some ok → ok.dst = some d → (fr.put o.dst v).get d = fr.get d := by
 cases hd : o.dst with
 | none => exact ⟨fun ok _ t _ => rfl, fun ok d _ _ => rfl⟩
 | some x =>
  refine ⟨fun ok hok t ht => ?_, fun ok d hok hdk => ?_⟩
  · rw [get_put]
    by_cases e : x = t
    · subst e
      rcases hP.deps k hk ok hok x ht i o ho hd with q | ⟨q1, q2⟩
      · exact absurd q.1 hi
      · rcases hq with hq | hq
        · rw [hq] at q1; cases q1
        · rcases q2 with rfl | q2
          · exact absurd hk hi
          · rw [hq] at q2; cases q2
    · rw [if_neg e]
  · rw [get_put]
    by_cases e : x = d
    · subst e
      have := hM.dsts i k o ok x ho hok hd hdk
      subst this
      exact absurd hk hi
    · rw [if_neg e]
theorem Left.mono_cons {ops : Array Oper} {done : List Nat} {listed : Array Bool} {i t : Nat} (h : Left ops (i :: done) listed t) : Left ops done listed t := fun k hk => h k (List.mem_cons_of_mem _ hk)
theorem getD_true_of_false {listed : Array Bool} {i : Nat} (h : listed.getD i false = true) : listed.getD i true = true := by
 simp only [Array.getD_eq_getD_getElem?] at *
 cases hq : listed[i]? with
 | none => simp
 | some x => simpa [hq] using h
theorem getD_cases {listed : Array Bool} {i : Nat} (hi : i < listed.size) : listed.getD i false = true ∨ listed.getD i true = false := by
 simp only [Array.getD_eq_getD_getElem?, Array.getElem?_eq_getElem hi, Option.getD_some]
 cases listed[i] <;> simp
theorem Amid.step {C : CallFn} {nt : Nat} {F : Fence} {g0 : Gh} {os0 : List Obj} {lim : Nat} {ops : Array Oper} {b : Nat → Nat} {rl : List Nat} (hM : Masks ops b) {done : List Nat} {listed : Array Bool} {ids : Nat → Option Nat} {fr : Fr} {a : Act}
 (H : Amid D0 P B w0 nt F g0 os0 lim ops b rl done listed ids g os fr a w) {i : Nat} {o : Oper} {s : Step} (ho : ops[i]? = some o) (hs : compStep P nt ops o = some s) (hp : placeOk P ops b rl done i o = true) (hk2 : s.op.kind ≠ 2) (hrl : rl.contains i = false) {fr1 : Fr} {h1 : Hp}
 (hr : runStep C s fr ⟨os, lim⟩ = some (fr1, h1)) : h1.lim = lim ∧ ∃ g1 ids1, Amid D0 P B w0 nt F g0 os0 lim ops b rl (i :: done) listed ids1 g1 h1.objs fr1 a w := by
 obtain ⟨hi, hdeps, _⟩ := place_spec hp
 obtain ⟨c1, c2, c3, c4, c5⟩ := compStep_ok hs
 have hlt : i < ops.size := (Array.getElem?_eq_some_iff.1 ho).1
 have hun : listed.getD i true = false := by
  rcases getD_cases (listed := listed) (i := i) (by rw [H.lsize]; exact hlt) with q | q
  · exact absurd (H.sub i q) hi
  · exact q
 have hsub : ∀ k, listed.getD k false = true → k ∈ i :: done := fun k hk => List.mem_cons_of_mem _ (H.sub k hk)
 have hpl := H.placed.cons ho hs hp
 have hfr : ∀ v, FrOn (Left ops (i :: done) listed) g os (fr.put o.dst v) a := fun v t ht => by
  cases hd : o.dst with
  | none => exact H.frs t ht.mono_cons
  | some x =>
   rw [get_put]
   have : x ≠ t := fun e => ht i (by simp) hun o ho (by rw [hd, e])
   rw [if_neg this]
   exact H.frs t ht.mono_cons
 have self : ∀ v, Agree ops o fr (fr.put o.dst v) := fun v t ht => by
  cases hd : o.dst with
  | none => rfl
  | some x =>
   rw [get_put]
   by_cases e : x = t
   · subst e
     rcases hdeps x ht i o ho hd with q | ⟨q, _⟩
     · exact absurd q.1 hi
     · rw [hrl] at q; cases q
   · rw [if_neg e]
 have own : ∀ v d, o.dst = some d → (fr.put o.dst v).get d = v := fun v d hd => by rw [hd, get_put, if_pos rfl]
 have old : ∀ v ids', (∀ k ∈ done, ids' k = ids k) → ∀ k ∈ done, listed.getD k true = false → Recipe P nt ops rl lim os0.length g os (fr.put o.dst v) ids' k := fun v ids' he k hk hu => by
  obtain ⟨q1, q2⟩ := H.placed.fresh hM ho hi hk (.inl hrl) fr v
  have := (H.recipes k hk hu).frame q1 q2
  obtain ⟨o', s', r1, r2, r3, r4⟩ := this
  refine ⟨o', s', r1, r2, r3, ?_⟩
  rw [he k hk]
  exact r4
 rcases runStep_cases hr with ⟨hg, v, hro, _, rfl⟩ | ⟨hg, rfl, rfl⟩
 · rw [c1]
   unfold runOp at hro
   split at hro
   · rename_i hk0
     cases hl : look s.op fr ⟨os, lim⟩ with
     | none => simp [hl] at hro
     | some v' =>
      simp [hl] at hro
      obtain ⟨rfl, rfl⟩ := hro
      refine ⟨rfl, g, ids, H.inv, H.ext, H.kept, hfr _, H.size, H.side, fun k hk hu => ?_, H.ids_inj, H.ids_lt, H.lsize, hsub, H.closed, hpl⟩
      rcases List.mem_cons.1 hk with rfl | hk
      · exact ⟨o, s, ho, hs, ⟨by omega, hrl⟩, .inr (.inl ⟨guard_congr hs (self _) hg, hk0, fr, v', self _, hl, own _⟩)⟩
      · exact old _ ids (fun _ _ => rfl) k hk hu
   · rename_i hk1
     unfold make at hro
     split at hro
     · rename_i f ob hm
       simp at hro
       obtain ⟨rfl, rfl⟩ := hro
       let p : Bool := !s.op.isNils
       have hI1 := H.inv.newV ob p
       have hE1 := Ext.newV g os ob p
       have hpn : g.ph os.length = none := by
        cases hq : g.ph os.length with
        | none => rfl
        | some x => exact absurd (H.inv.dom _ x hq) (by omega)
       refine ⟨rfl, g.wait os.length p, fun k => if k = i then some os.length else ids k, hI1, H.ext.trans hE1, H.kept.trans H.ext ⟨fun k hk => ⟨fun hp => ⟨.inr hp, List.getElem?_append_left hk⟩, fun _ h => h⟩, fun _ h => h⟩, fun t ht => RV.mono hE1 _ _ (hfr _ t ht), H.size, H.side.mono hE1 (fun _ h => h), fun k hk hu => ?_, fun k j id h1 h2 => ?_, fun k id h1 => ?_, H.lsize, hsub, H.closed, hpl⟩
       · rcases List.mem_cons.1 hk with rfl | hk
         · refine ⟨o, s, ho, hs, ⟨by omega, hrl⟩, .inr (.inr ⟨guard_congr hs (self _) hg, hk1, fr, f, ob, os.length, self _, hm, by simp, by simp [Hp.new], H.ext.len, hpn, fun hn => ?_, fun hn => ?_, own _⟩)⟩
           · rintro (⟨_, q⟩ | q)
             · simp [p, hn] at q
             · exact absurd (H.inv.pend _ q).2 (by omega)
           · exact .inl ⟨rfl, by simp [p, hn]⟩
         · obtain ⟨o', s', r1, r2, r3, r4⟩ := old (f os.length) ids (fun _ _ => rfl) k hk hu
           have hki : k ≠ i := fun e => hi (e ▸ hk)
           refine ⟨o', s', r1, r2, r3, ?_⟩
           rcases r4 with q | ⟨q1, q2, fri, v', q3, q4, q5⟩ | ⟨q1, q2, fri, f', ob', id, q3, q4, q5, q6, q7, q8, q9, q10, q11⟩
           · exact .inl q
           · refine .inr (.inl ⟨q1, q2, ?_⟩)
             by_cases hh : s'.op.heapy = true
             · exact ⟨fri, v', q3, look_grow q4 ob, q5⟩
             · exact ⟨fri, v', q3, by rw [← q4]; exact look_pure (by simpa using hh) _ _ _, q5⟩
           · have hidl := H.ids_lt _ _ q5
             refine .inr (.inr ⟨q1, q2, fri, f', ob', id, q3, q4, by simp [hki, q5], by simp only [Hp.new]; rw [List.getElem?_append_left hidl]; exact q6, q7, q8, fun hn => ?_, fun hn => .inr (q10 hn), q11⟩)
             rintro (⟨e, _⟩ | q)
             · omega
             · exact q9 hn q
       · try simp only at h1 h2
         split at h1 <;> split at h2
         · simp_all
         · cases h1
           have := H.ids_lt _ _ h2
           omega
         · cases h2
           have := H.ids_lt _ _ h1
           omega
         · exact H.ids_inj _ _ _ h1 h2
       · try simp only at h1
         simp only [Hp.new, List.length_append, List.length_singleton]
         split at h1
         · cases h1; omega
         · have := H.ids_lt _ _ h1
           omega
     · cases hro
   · rename_i h0 h1
     have : s.op.kind = 0 ∨ s.op.kind = 1 ∨ s.op.kind = 2 := by cases s.op <;> simp [DOp.kind]
     rcases this with q | q | q
     · exact absurd q h0
     · exact absurd q h1
     · exact absurd q hk2
 · rw [c1]
   refine ⟨rfl, g, ids, H.inv, H.ext, H.kept, hfr _, H.size, H.side, fun k hk hu => ?_, H.ids_inj, H.ids_lt, H.lsize, hsub, H.closed, hpl⟩
   rcases List.mem_cons.1 hk with rfl | hk
   · exact ⟨o, s, ho, hs, ⟨hk2, hrl⟩, .inl ⟨guard_congr hs (self _) hg, own _⟩⟩
   · exact old _ ids (fun _ _ => rfl) k hk hu
end Dk
namespace Dk
open Go Go.RowKit
variable [Globs] [SiteRel] {D0 : List Deferred × Bool} {P : Program} {B : Nat} {w0 w : World} {g : Gh} {os : List Obj}
theorem Amid.advance {C : CallFn} {nt : Nat} {F : Fence} {g0 : Gh} {os0 : List Obj} {lim : Nat} {ops : Array Oper} {b : Nat → Nat} {rl : List Nat} (hM : Masks ops b) {listed : Array Bool} {a : Act} {fr' : Fr} {h' : Hp} : ∀ (r done : List Nat) (ss : List Step) (ids : Nat → Option Nat) (g : Gh) (os : List Obj) (fr : Fr),
 Amid D0 P B w0 nt F g0 os0 lim ops b rl done listed ids g os fr a w → drawGo P nt ops b rl done r = some ss → runSteps C ss fr ⟨os, lim⟩ = some (fr', h') →
 ∃ done' r' ss' ids' g' os' fr1, Amid D0 P B w0 nt F g0 os0 lim ops b rl done' listed ids' g' os' fr1 a w ∧ drawGo P nt ops b rl done' r' = some ss' ∧ runSteps C ss' fr1 ⟨os', lim⟩ = some (fr', h') ∧ (r' = [] ∨ ∃ i r'', r' = i :: r'' ∧ isEffect P ops rl i = true)
 | [], done, ss, ids, g, os, fr, H, hd, hr => ⟨done, [], ss, ids, g, os, fr, H, hd, hr, .inl rfl⟩
 | i :: r, done, ss, ids, g, os, fr, H, hd, hr => by
  obtain ⟨o, s, cs, l, ho, hs, hp, hcs, hl, rfl⟩ := drawGo_cons hd
  by_cases hke : s.op.kind = 2 ∨ rl.contains i = true
  · exact ⟨done, i :: r, _, ids, g, os, fr, H, hd, hr, .inr ⟨i, r, rfl, by rw [isEffect_of ho hs, Bool.or_eq_true]; exact hke.imp (fun q => by simpa using q) id⟩⟩
  · obtain ⟨hk, hrl⟩ := not_or.1 hke
    have hrl : rl.contains i = false := by simpa using hrl
    rw [if_neg hk] at hcs
    cases hcs
    simp only [runSteps] at hr
    split at hr
    · rename_i fr1 h1 hstep
      have e : ({ s with chk := [] } : Step) = s := by
       obtain ⟨_, h2, _⟩ := compStep_ok hs
       cases s
       simp_all
      rw [e] at hstep
      obtain ⟨q1, g1, ids1, q2⟩ := H.step hM ho hs hp.1 hk hrl hstep
      obtain ⟨os1, lim1⟩ := h1
      simp only at q1
      subst q1
      exact Amid.advance hM r (i :: done) l ids1 g1 os1 fr1 q2 hl hr
    · cases hr
theorem FrOn.set {S : Nat → Prop} {fr : Fr} {a : Act} {u : Value} (h : FrOn S g os fr a) (dst : Option Nat) (hr : ∀ d, dst = some d → d < a.tmps.size ∧ RV g os (fr.get d) u) :
 FrOn (fun t => S t ∨ dst = some t) g os fr (a.put dst u) := by
 cases dst with
 | none => intro t ht; exact h t (ht.resolve_right (by simp))
 | some d =>
  intro t ht
  rw [eval_put]
  by_cases e : d = t
  · subst e
    rw [if_pos ⟨rfl, (hr d rfl).1⟩]; exact (hr d rfl).2
  · rw [if_neg (fun q => e q.1)]
    exact h t (ht.resolve_right (fun q => e (by cases q; rfl)))
theorem set_self {listed : Array Bool} {i : Nat} (hi : i < listed.size) : (listed.setIfInBounds i true).getD i false = true := by
 simp [hi]
theorem set_ne {listed : Array Bool} {i j : Nat} (h : i ≠ j) (d : Bool) : (listed.setIfInBounds i true).getD j d = listed.getD j d := getD_set_ne d h
theorem set_un {listed : Array Bool} {i j : Nat} (hi : i < listed.size) (h : (listed.setIfInBounds i true).getD j true = false) : j ≠ i ∧ listed.getD j true = false := by
 by_cases e : i = j
 · subst e
   have := getD_true_of_false (set_self hi)
   rw [this] at h
   cases h
 · rw [set_ne e] at h
   exact ⟨fun q => e q.symm, h⟩
theorem Amid.before {nt : Nat} {F : Fence} {g0 : Gh} {os0 : List Obj} {lim : Nat} {ops : Array Oper} {b : Nat → Nat} {rl : List Nat} (hM : Masks ops b) {done : List Nat} {listed : Array Bool} {ids : Nat → Option Nat} {fr : Fr} {a : Act}
 (H : Amid D0 P B w0 nt F g0 os0 lim ops b rl done listed ids g os fr a w) {i : Nat} {o : Oper} (ho : ops[i]? = some o) (hall : ∀ e ∈ o.after, Region.binds .any e = true → listed.getD e.on false = true) {j : Nat} (hj : j < ops.size) (ht : (b i).testBit j = true) : listed.getD j false = true := by
 obtain ⟨e, he, hb, q⟩ := hM.says i o ho j hj ht
 rcases q with rfl | q
 · exact hall e he hb
 · exact H.closed _ (hall e he hb) j hj q
theorem Amid.sees {nt : Nat} {F : Fence} {g0 : Gh} {os0 : List Obj} {lim : Nat} {ops : Array Oper} {b : Nat → Nat} {rl : List Nat} (hM : Masks ops b) {done : List Nat} {listed : Array Bool} {ids : Nat → Option Nat} {fr : Fr} {a : Act}
 (H : Amid D0 P B w0 nt F g0 os0 lim ops b rl done listed ids g os fr a w) {i : Nat} {o : Oper} (ho : ops[i]? = some o) (hall : ∀ e ∈ o.after, Region.binds .any e = true → listed.getD e.on false = true)
 (hdeps : ∀ t ∈ o.looksAt ops, ∀ (j : Nat) (oj : Oper), ops[j]? = some oj → oj.dst = some t → (b i).testBit j = true ∨ rl.contains j = true) : ∀ t ∈ o.looksAt ops, Left ops done listed t := by
 intro t ht k hk hu ok hok hd
 rcases hdeps t ht k ok hok hd with q | q
 · have := H.before hM ho hall (Array.getElem?_eq_some_iff.1 hok).1 q
   rw [getD_true_of_false this] at hu
   cases hu
 · obtain ⟨_, _, _, _, ⟨_, q2⟩, _⟩ := H.recipes k hk hu
   rw [q2] at q
   cases q
theorem looks_op {ops : Array Oper} {o : Oper} {x : Operand} (hx : x ∈ o.op.operands) {t : Nat} (e : x = .tmp t) : t ∈ o.looksAt ops := by
 subst e
 exact List.mem_append_left _ (List.mem_filterMap.2 ⟨.tmp t, by simpa using hx, rfl⟩)
theorem looks_guard {ops : Array Oper} {o : Oper} {nt : Nat} {gd : Option (Nat × Bool)} (hg : GuardOf nt ops o.guard gd) {t : Nat} {x : Bool} (e : gd = some (t, x)) : t ∈ o.looksAt ops := by
 cases hgd : o.guard with
 | none =>
  rw [hgd] at hg
  simp only [GuardOf] at hg
  rw [hg] at e
  cases e
 | some gw =>
  obtain ⟨gi, want⟩ := gw
  rw [hgd] at hg
  simp only [GuardOf] at hg
  obtain ⟨t', ht, _, h6⟩ := hg
  rw [h6] at e
  cases e
  unfold Oper.looksAt
  rw [hgd]
  simp only
  rw [ht]
  simp
theorem Amid.caught {nt : Nat} {F : Fence} {g0 : Gh} {os0 : List Obj} {lim : Nat} {ops : Array Oper} {b : Nat → Nat} {rl : List Nat} (hM : Masks ops b) {done : List Nat} {listed : Array Bool} {ids : Nat → Option Nat} {fr : Fr} {a : Act}
 (H : Amid D0 P B w0 nt F g0 os0 lim ops b rl done listed ids g os fr a w) {i : Nat} {o : Oper} (ho : ops[i]? = some o) (hi : i ∈ done) (hall : ∀ e ∈ o.after, Region.binds .any e = true → listed.getD e.on false = true)
 {u : Value} {w' : World} {g' : Gh} (hI : Inv B w0 g' os w') (hE : Ext g os g' os) (hK : Kept lim g0 os0 g' os) (hdf : ∀ b, g.df b → g'.df b) (hd : ∀ d, o.dst = some d → RV g' os (fr.get d) u)
 (hrec : ∀ k ∈ done, k ≠ i → listed.getD k true = false → Recipe P nt ops rl lim os0.length g' os fr ids k) :
 Amid D0 P B w0 nt F g0 os0 lim ops b rl done (listed.setIfInBounds i true) ids g' os fr (a.put o.dst u) w' := by
 have hlt : i < listed.size := by rw [H.lsize]; exact (Array.getElem?_eq_some_iff.1 ho).1
 obtain ⟨o', s, ho', hs⟩ := H.placed.comp i hi
 rw [ho] at ho'; cases ho'
 obtain ⟨_, _, _, c4, _⟩ := compStep_ok hs
 refine ⟨hI, H.ext.trans hE, hK, ?_, by rw [size_put]; exact H.size, by rw [defers_put]; exact H.side.mono hE hdf, fun k hk hu => ?_, H.ids_inj, H.ids_lt, by simpa using H.lsize, fun k hk => ?_, fun k hk j hj ht => ?_, H.placed⟩
 · intro t ht
   refine FrOn.set (H.frs.mono hE) o.dst (fun d hd' => ⟨by rw [H.size]; exact c4 d hd', hd d hd'⟩) t ?_
   by_cases e : o.dst = some t
   · exact .inr e
   · refine .inl fun k hk hu ok hok => ?_
     by_cases hki : i = k
     · subst hki
       rw [ho] at hok; cases hok
       exact e
     · exact ht k hk (by rw [set_ne hki]; exact hu) ok hok
 · obtain ⟨q1, q2⟩ := set_un hlt hu
   exact hrec k hk q1 q2
 · by_cases e : i = k
   · subst e; exact hi
   · rw [set_ne e] at hk
     exact H.sub k hk
 · by_cases e : i = k
   · subst e
     exact getD_set_true (H.before hM ho hall hj ht)
   · rw [set_ne e] at hk
     exact getD_set_true (H.closed k hk j hj ht)
theorem Amid.late {nt : Nat} {F : Fence} {g0 : Gh} {os0 : List Obj} {lim : Nat} {ops : Array Oper} {b : Nat → Nat} {rl : List Nat} (hM : Masks ops b) {done : List Nat} {listed : Array Bool} {ids : Nat → Option Nat} {fr : Fr} {a : Act}
 (H : Amid D0 P B w0 nt F g0 os0 lim ops b rl done listed ids g os fr a w) {i : Nat} (hi : i ∈ done) (hready : i ∈ Region.ready .any ops listed) (hF : Free F) {K : Act → World → Prop} {Q : Exit → Act → World → Prop}
 (hn : ∀ g' a' w', Amid D0 P B w0 nt F g0 os0 lim ops b rl done (listed.setIfInBounds i true) ids g' os fr a' w' → K a' w') : wpOpIn F 0 P ops Q i K a w := by
 obtain ⟨hun, o, ho, hall⟩ := mem_ready.1 hready
 obtain ⟨o', s, ho', hs, hk, hrec⟩ := H.recipes i hi hun
 rw [ho] at ho'; cases ho'
 obtain ⟨c1, c2, c3, c4, c5⟩ := compStep_ok hs
 have hdeps : ∀ t ∈ o.looksAt ops, ∀ (j : Nat) (oj : Oper), ops[j]? = some oj → oj.dst = some t → (b i).testBit j = true ∨ rl.contains j = true := fun t ht j oj hj hd => (H.placed.deps i hi o ho t ht j oj hj hd).imp (fun q => q.2.2) (fun q => q.1)
 have hsee := H.sees hM ho hall hdeps
 have go : ∀ x, GuardIs fr s.guard x → Region.wanted o (yielded ops a.tmps) = x := fun x hx =>
  wanted_ok (g := g) (os := os) (fr := fr) c5 H.size (fun t x' e => H.frs t (hsee t (looks_guard c5 e))) hx
 have hans : ∀ fri, Agree ops o fri fr → ∀ x ∈ o.op.operands, Ans g os fri a.eval x := by
  intro fri hA x hx
  refine FrOn.ans (S := fun t => t ∈ o.looksAt ops) (fun t ht => ?_) H.inv.gl (fun t e => looks_op hx e)
  rw [hA t ht]
  exact H.frs t (hsee t ht)
 have others : ∀ k ∈ done, k ≠ i → listed.getD k true = false → Recipe P nt ops rl lim os0.length g os fr ids k := fun k hk _ hu => H.recipes k hk hu
 unfold wpOpIn
 simp only [ho]
 rcases hrec with ⟨q1, q2⟩ | ⟨q1, q2, fri, v, q3, q4, q5⟩ | ⟨q1, q2, fri, f, ob, id, q3, q4, q5, q6, q7, q8, q9, q10, q11⟩
 · rw [go false q1]
   simp only [Bool.false_eq_true, if_false]
   exact ⟨fun f _ => hF.fn f, hn g _ _ (H.caught hM ho hi hall H.inv (Ext.refl g os) H.kept (fun _ h => h) (fun d hd => by rw [q2 d hd]; exact RV.undef g os) others)⟩
 · rw [go true q1]
   simp only [if_true]
   obtain ⟨u, r1, r2⟩ := look_ok H.inv (fun v => rfl) (hans fri q3) c3 q4
   exact wp_value hF (comp_nodefer c3) r1 (hn g _ _ (H.caught hM ho hi hall H.inv (Ext.refl g os) H.kept (fun _ h => h) (fun d hd => by rw [q5 d hd]; exact r2) others))
 · rw [go true q1]
   simp only [if_true]
   obtain ⟨u, w', g', r1, r2, r3, r4, r5, r6⟩ := make_ok H.inv (fun v => rfl) (hans fri q3) c3 q4 q6 q8 q9
   refine wp_value hF (comp_nodefer c3) r1 (hn g' _ _ (H.caught hM ho hi hall r2 r3 ⟨fun j hj => ⟨fun hp => ?_, fun hl hp => ?_⟩, fun b hb => r6.2 b (H.kept.df b hb)⟩ r6.2 (fun d hd => by rw [q11 d hd]; exact r4) fun k hk hki hu => ?_))
   · obtain ⟨k1, k2⟩ := (H.kept.old j hj).1 hp
     exact ⟨r5 j (by omega) k1, k2⟩
   · exact r6.1 j (by omega) ((H.kept.old j hj).2 hl hp)
   · obtain ⟨ok, sk, p1, p2, p3, p4⟩ := H.recipes k hk hu
     refine ⟨ok, sk, p1, p2, p3, ?_⟩
     rcases p4 with p | p | ⟨p5, p6, frk, fk, obk, idk, p7, p8, p9, p10, p11, p12, p13, p14, p15⟩
     · exact .inl p
     · exact .inr (.inl p)
     · have hne : idk ≠ id := fun e => hki (H.ids_inj k i id (e ▸ p9) q5)
       exact .inr (.inr ⟨p5, p6, frk, fk, obk, idk, p7, p8, p9, p10, p11, r6.1 idk hne p12, fun hn hp => p13 hn (r3.pend idk (H.ids_lt _ _ p9) hp), fun hn => r5 idk hne (p14 hn), p15⟩)
theorem still_get {fr : Fr} {h : Hp} : ∀ {l : List Chk}, still fr h l = true → ∀ d op gd, (d, op, gd) ∈ l → GuardIs fr gd true → ∃ v, look op fr h = some v ∧ v = fr.get d
 | [], _, _, _, _, hm, _ => by cases hm
 | (d0, op0, gd0) :: r, hs, d, op, gd, hm, hg => by
  simp only [still, Bool.and_eq_true, Bool.or_eq_true] at hs
  rcases List.mem_cons.1 hm with e | hm
  · simp only [Prod.mk.injEq] at e
    obtain ⟨e1, e2, e3⟩ := e
    subst e1 e2 e3
    have h1 := hs.1.resolve_left (by
     cases gd with
     | none => simp
     | some gw =>
      obtain ⟨t, want⟩ := gw
      simp only [GuardIs] at hg
      simp [hg])
    cases hl : look op fr h with
    | none => simp [hl] at h1
    | some v =>
     simp only [hl] at h1
     exact ⟨v, rfl, EV.eqb_eq _ _ h1⟩
  · exact still_get hs.2 d op gd hm hg
theorem chksOf_get {nt : Nat} {ops : Array Oper} {m : Nat} : ∀ {l : List Nat} {cs : List Chk}, chksOf P nt ops m l = some cs → ∀ i ∈ l, ∃ c, chkOf P nt ops m i = some c ∧ ∀ x ∈ c, x ∈ cs
 | [], _, _, i, hi => by cases hi
 | k :: r, cs, h, i, hi => by
  simp only [chksOf] at h
  split at h
  · rename_i a b ha hb
    cases h
    rcases List.mem_cons.1 hi with rfl | hi
    · exact ⟨a, ha, fun x hx => List.mem_append_left _ hx⟩
    · obtain ⟨c, h1, h2⟩ := chksOf_get hb i hi
      exact ⟨c, h1, fun x hx => List.mem_append_right _ (h2 x hx)⟩
  · cases h
theorem Amid.effect {C : CallFn} (hC : CallOK P C) {nt : Nat} {F : Fence} {g0 : Gh} {os0 : List Obj} {lim : Nat} {ops : Array Oper} {b : Nat → Nat} {rl : List Nat} (hM : Masks ops b) {done : List Nat} {listed : Array Bool} {ids : Nat → Option Nat} {fr : Fr} {a : Act}
 (H : Amid D0 P B w0 nt F g0 os0 lim ops b rl done listed ids g os fr a w) {i : Nat} {o : Oper} {s : Step} (ho : ops[i]? = some o) (hs : compStep P nt ops o = some s) (hp : placeOk P ops b rl done i o = true) (hk : s.op.kind = 2 ∨ s.op.kind = 0) {cs : List Chk} (hcs : (if s.op.kind = 2 then chksOf P nt ops (b i) done else some []) = some cs)
 (hready : i ∈ Region.ready .any ops listed) (hF : Free F) {fr1 : Fr} {h1 : Hp} (hr : runStep C { s with chk := cs } fr ⟨os, lim⟩ = some (fr1, h1)) {K : Act → World → Prop} {Q : Exit → Act → World → Prop}
 (hn : ∀ g' a' w', h1.lim = lim → Amid D0 P B w0 nt F g0 os0 lim ops b rl (i :: done) (listed.setIfInBounds i true) ids g' h1.objs fr1 a' w' → K a' w') : wpOpIn F 0 P ops Q i K a w := by
 obtain ⟨hun, o', ho', hall⟩ := mem_ready.1 hready
 rw [ho] at ho'; cases ho'
 obtain ⟨hi, hdeps, _⟩ := place_spec hp
 obtain ⟨c1, c2, c3, c4, c5⟩ := compStep_ok hs
 have hlt : i < listed.size := by rw [H.lsize]; exact (Array.getElem?_eq_some_iff.1 ho).1
 have hsee := H.sees hM ho hall fun t ht j oj hj hd => (hdeps t ht j oj hj hd).imp (fun q => q.2) (fun q => q.1)
 have hpl := H.placed.cons ho hs hp
 have go : ∀ x, GuardIs fr s.guard x → Region.wanted o (yielded ops a.tmps) = x := fun x hx =>
  wanted_ok (g := g) (os := os) (fr := fr) c5 H.size (fun t x' e => H.frs t (hsee t (looks_guard c5 e))) hx
 have hans : ∀ x ∈ o.op.operands, Ans g os fr a.eval x := by
  intro x hx
  refine FrOn.ans (S := fun t => t ∈ o.looksAt ops) (fun t ht => ?_) H.inv.gl (fun t e => looks_op hx e)
  exact H.frs t (hsee t ht)
 have hsub : ∀ k, (listed.setIfInBounds i true).getD k false = true → k ∈ i :: done := fun k hk => by
  by_cases e : i = k
  · subst e; simp
  · rw [set_ne e] at hk
    exact List.mem_cons_of_mem _ (H.sub k hk)
 have hclosed : ∀ k, (listed.setIfInBounds i true).getD k false = true → ∀ j, j < ops.size → (b k).testBit j = true → (listed.setIfInBounds i true).getD j false = true := fun k hk j hj ht => by
  by_cases e : i = k
  · subst e
    exact getD_set_true (H.before hM ho hall hj ht)
  · rw [set_ne e] at hk
    exact getD_set_true (H.closed k hk j hj ht)
 have hleft : ∀ t, Left ops (i :: done) (listed.setIfInBounds i true) t → Left ops done listed t := fun t ht k hk hu ok hok => by
  refine ht k (List.mem_cons_of_mem _ hk) ?_ ok hok
  have hne : i ≠ k := fun e => hi (e.symm ▸ hk)
  rw [set_ne hne]
  exact hu
 have unl : ∀ k ∈ done, listed.getD k true = false → (b i).testBit k = false := fun k hkd hu => by
  cases hq : (b i).testBit k with
  | false => rfl
  | true =>
   obtain ⟨_, _, p1, _⟩ := H.recipes k hkd hu
   have := H.before hM ho hall (Array.getElem?_eq_some_iff.1 p1).1 hq
   rw [getD_true_of_false this] at hu
   cases hu
 -- in the same memory
 have fin0 : ∀ (v : EV) (u : Value), RV g os v u → Amid D0 P B w0 nt F g0 os0 lim ops b rl (i :: done) (listed.setIfInBounds i true) ids g os (fr.put o.dst v) (a.put o.dst u) w := by
  intro v u hv
  refine ⟨H.inv, H.ext, H.kept, fun t ht => FrOn.put H.frs o.dst (by rw [H.size]; exact c4) hv t (.inl (hleft t ht)), by rw [size_put]; exact H.size, by rw [defers_put]; exact H.side, fun k hk hu => ?_, H.ids_inj, H.ids_lt, by simpa using H.lsize, hsub, hclosed, hpl⟩
  obtain ⟨hki, hu⟩ := set_un hlt hu
  have hkd : k ∈ done := (List.mem_cons.1 hk).resolve_left hki
  obtain ⟨f1, f2⟩ := H.placed.fresh hM ho hi hkd (.inr (unl k hkd hu)) fr v
  exact (H.recipes k hkd hu).frame f1 f2
 -- how what is done goes on, in memory that went on
 have fin : s.op.kind = 2 → ∀ (v : EV) (u : Value) (w' : World) (os' : List Obj) (g' : Gh), Inv B w0 g' os' w' → Ext g os g' os' → Kept lim g os g' os' → RV g' os' v u → (os' = os ∨ still fr ⟨os', lim⟩ cs = true) →
  Amid D0 P B w0 nt F g0 os0 lim ops b rl (i :: done) (listed.setIfInBounds i true) ids g' os' (fr.put o.dst v) (a.put o.dst u) w' := by
  intro hk2 v u w' os' g' hI hE hK hv hst
  rw [if_pos hk2] at hcs
  refine ⟨hI, H.ext.trans hE, H.kept.trans H.ext hK, fun t ht => FrOn.put (H.frs.mono hE) o.dst (by rw [H.size]; exact c4) hv t (.inl (hleft t ht)), by rw [size_put]; exact H.size, by rw [defers_put]; exact H.side.mono hE hK.df, fun k hk hu => ?_, H.ids_inj, fun k id h => Nat.lt_of_lt_of_le (H.ids_lt k id h) hE.len, by simpa using H.lsize, hsub, hclosed, hpl⟩
  obtain ⟨hki, hu⟩ := set_un hlt hu
  have hkd : k ∈ done := (List.mem_cons.1 hk).resolve_left hki
  obtain ⟨f1, f2⟩ := H.placed.fresh hM ho hi hkd (.inr (unl k hkd hu)) fr v
  refine Recipe.frame ?_ f1 f2
  obtain ⟨ok, sk, p1, p2, p3, p4⟩ := H.recipes k hkd hu
  obtain ⟨d1, d2, d3, d4, d5⟩ := compStep_ok p2
  have hnb := unl k hkd hu
  obtain ⟨c, hc, hcin⟩ := chksOf_get hcs k hkd
  simp only [chkOf, hnb, Bool.false_eq_true, if_false, p1, p2] at hc
  refine ⟨ok, sk, p1, p2, p3, ?_⟩
  rcases p4 with p | ⟨p5, p6, fri, v', p7, p8, p9⟩ | ⟨p5, p6, fri, fk, obk, idk, p7, p8, p9, p10, p11, p12, p13, p14, p15⟩
  · exact .inl p
  · refine .inr (.inl ⟨p5, p6, ?_⟩)
    by_cases hh : sk.op.heapy = true
    · rcases hst with rfl | hst
      · exact ⟨fri, v', p7, p8, p9⟩
      · simp only [p6, hh, if_true] at hc
        split at hc
        · rename_i d hd
          cases hc
          obtain ⟨v2, r1, r2⟩ := still_get hst d sk.op sk.guard (hcin _ (by simp)) p5
          refine ⟨fr, v2, fun _ _ => rfl, r1, fun d' hd' => ?_⟩
          rw [d1, hd'] at hd
          cases hd
          exact r2.symm
        · cases hc
    · exact ⟨fri, v', p7, by rw [← p8]; exact look_pure (by simpa using hh) _ _ _, p9⟩
  · have hnn : sk.op.isNils = false := by
     cases hq : sk.op.isNils with
     | false => rfl
     | true => simp [p6, hq] at hc
    obtain ⟨k1, k2⟩ := (hK.old idk (H.ids_lt _ _ p9)).1 (p14 hnn)
    exact .inr (.inr ⟨p5, p6, fri, fk, obk, idk, p7, p8, p9, by rw [k2]; exact p10, p11, (hI.pend _ k1).1, fun hn => (by rw [hnn] at hn; cases hn), fun _ => k1, p15⟩)
 unfold wpOpIn
 simp only [ho]
 rcases runStep_cases hr with ⟨hg, v, hro, hst, rfl⟩ | ⟨hg, rfl, rfl⟩
 · rw [go true hg]
   simp only [if_true]
   rcases hk with hk | hk
   rotate_left
   · unfold runOp at hro
     simp only [hk] at hro
     cases hl : look s.op fr ⟨os, lim⟩ with
     | none => simp [hl] at hro
     | some v' =>
      simp [hl] at hro
      obtain ⟨rfl, rfl⟩ := hro
      obtain ⟨u, r1, r2⟩ := look_ok H.inv (fun v => rfl) hans c3 hl
      refine wp_value hF (comp_nodefer c3) r1 (hn g _ _ rfl ?_)
      have := fin0 v' u r2
      simpa only [c1] using this
   obtain ⟨q1, q2⟩ := op_wp hC hF H.inv hans c3 hro
   obtain ⟨os', lim'⟩ := h1
   simp only at q1
   subst q1
   refine q2 _ _ fun u w' hw => ?_
   obtain ⟨g', r1, r2, r3, r4⟩ := hw
   refine hn g' _ _ rfl ?_
   have := fin hk v u w' os' g' r1 r2 r3 r4 (.inr hst)
   simpa only [c1] using this
 · rw [go false hg]
   simp only [Bool.false_eq_true, if_false]
   refine ⟨fun f _ => hF.fn f, hn g _ _ rfl ?_⟩
   have := fin0 (.tup []) undef (RV.undef g os)
   simpa only [c1] using this
def leftOf (ops : Array Oper) (listed : Array Bool) : List Nat := (List.range ops.size).filter fun i => !listed.getD i true
theorem leftOf_less {ops : Array Oper} {listed : Array Bool} {i : Nat} (hs : listed.size = ops.size) (hi : listed.getD i true = false) : (leftOf ops (listed.setIfInBounds i true)).length < (leftOf ops listed).length := by
 have hlt : i < listed.size := by
  rcases Nat.lt_or_ge i listed.size with h | h
  · exact h
  · simp [h] at hi
 have e : leftOf ops (listed.setIfInBounds i true) = (leftOf ops listed).filter (fun k => k != i) := by
  unfold leftOf
  rw [List.filter_filter]
  apply List.filter_congr
  intro k _
  by_cases h : i = k
  · subst h
    have := getD_true_of_false (set_self hlt)
    rw [this]
    simp
  · rw [set_ne h]
    have : (k != i) = true := by simpa using fun e : k = i => h e.symm
    rw [this]; simp
 rw [e, List.length_filter_lt_length_iff_exists]
 exact ⟨i, List.mem_filter.2 ⟨by simpa using hs ▸ hlt, by simp [hi]⟩, by simp⟩
theorem any_wp {C : CallFn} (hC : CallOK P C) {nt : Nat} {F : Fence} (hF : Free F) {g0 : Gh} {os0 : List Obj} {lim : Nat} {ops : Array Oper} {b : Nat → Nat} {rl : List Nat} (hM : Masks ops b) {fr' : Fr} {h' : Hp} {Q : Exit → Act → World → Prop}
 (hQ : ∀ g' a' w', Stands D0 lim B w0 nt F g0 os0 g' h'.objs fr' a' w' → h'.lim = lim → Q .normal a' w') : ∀ (fuel : Nat) (listed : Array Bool) (a : Act) (w : World) (done r : List Nat) (ss : List Step) (ids : Nat → Option Nat) (g : Gh) (os : List Obj) (fr : Fr),
 (leftOf ops listed).length ≤ fuel → Amid D0 P B w0 nt F g0 os0 lim ops b rl done listed ids g os fr a w → drawGo P nt ops b rl done r = some ss → runSteps C ss fr ⟨os, lim⟩ = some (fr', h') → (r = [] ∨ ∃ i r'', r = i :: r'' ∧ isEffect P ops rl i = true) →
 wpAnyIn F 0 P .any ops Q fuel listed a w := by
 have stop : ∀ (listed : Array Bool) (a : Act) (w : World) (done r : List Nat) (ss : List Step) (ids : Nat → Option Nat) (g : Gh) (os : List Obj) (fr : Fr), Amid D0 P B w0 nt F g0 os0 lim ops b rl done listed ids g os fr a w → drawGo P nt ops b rl done r = some ss → runSteps C ss fr ⟨os, lim⟩ = some (fr', h') → Region.ready .any ops listed = [] → Q .normal a w := by
  intro listed a w done r ss ids g os fr H hd hr hready
  have all : ∀ i, i < ops.size → listed.getD i false = true := by
   intro i
   induction i using Nat.strongRecOn with
   | _ i ih =>
    intro hi
    rcases getD_cases (listed := listed) (i := i) (by rw [H.lsize]; exact hi) with q | q
    · exact q
    · have : i ∈ Region.ready .any ops listed := by
       rw [mem_ready]
       refine ⟨q, ops[i], Array.getElem?_eq_getElem hi, fun e he hb => ?_⟩
       have hlt := hM.back i ops[i] (Array.getElem?_eq_getElem hi) e he hb
       exact ih e.on hlt (by omega)
      rw [hready] at this
      cases this
  have hrn : r = [] := by
   cases r with
   | nil => rfl
   | cons i r =>
    obtain ⟨o, s, cs, l, ho, hs, hp, _⟩ := drawGo_cons hd
    exact absurd (H.sub i (all i (Array.getElem?_eq_some_iff.1 ho).1)) (place_spec hp.1).1
  subst hrn
  have hss : ss = [] := by
   simp only [drawGo] at hd
   split at hd
   · cases hd; rfl
   · cases hd
  subst hss
  simp only [runSteps, Option.some.injEq, Prod.mk.injEq] at hr
  obtain ⟨rfl, rfl⟩ := hr
  refine hQ g a w ⟨H.inv, H.ext, H.kept, fun t _ => H.frs t fun k hk hu ok hok => ?_, H.size, H.side.1, H.side.2⟩ rfl
  have := all k (Array.getElem?_eq_some_iff.1 hok).1
  rw [getD_true_of_false this] at hu
  cases hu
 intro fuel
 induction fuel with
 | zero =>
  intro listed a w done r ss ids g os fr hf H hd hr hh
  have hready : Region.ready .any ops listed = [] := by
   rw [List.eq_nil_iff_forall_not_mem]
   intro i hi
   obtain ⟨hu, o, ho, _⟩ := mem_ready.1 hi
   have : i ∈ leftOf ops listed := List.mem_filter.2 ⟨by simpa using (Array.getElem?_eq_some_iff.1 ho).1, by simp [hu]⟩
   have hz : leftOf ops listed = [] := by simpa using hf
   rw [hz] at this
   cases this
  exact ⟨hready, stop listed a w done r ss ids g os fr H hd hr hready⟩
 | succ fuel ih =>
  intro listed a w done r ss ids g os fr hf H hd hr hh
  refine ⟨stop listed a w done r ss ids g os fr H hd hr, fun i hi => ?_⟩
  obtain ⟨hu, o, ho, hall⟩ := mem_ready.1 hi
  have hlt := (Array.getElem?_eq_some_iff.1 ho).1
  have hless := leftOf_less H.lsize hu
  by_cases hid : i ∈ done
  · exact H.late hM hid hi hF fun g' a' w' H' => ih _ a' w' done r ss ids g' os fr (by omega) H' hd hr hh
  · have hir : i ∈ r := (drawGo_all hd i hlt).resolve_left hid
    rcases hh with rfl | ⟨k, r'', rfl, hek⟩
    · cases hir
    obtain ⟨ok, s, cs, l, hok, hs, hp, hcs, hl, rfl⟩ := drawGo_cons hd
    rcases List.mem_cons.1 hir with rfl | hir
    · have hk2 : s.op.kind = 2 ∨ s.op.kind = 0 := by
       rw [isEffect_of hok hs, Bool.or_eq_true] at hek
       rcases hek with q | q
       · exact .inl (by simpa using q)
       · have h1 : s.op.kind ≠ 1 := fun e => by rw [hp.2 e] at q; cases q
         have : s.op.kind = 0 ∨ s.op.kind = 1 ∨ s.op.kind = 2 := by cases s.op <;> simp [DOp.kind]
         rcases this with q | q | q
         · exact .inr q
         · exact absurd q h1
         · exact .inl q
      simp only [runSteps] at hr
      split at hr
      · rename_i fr1 h1 hstep
        refine H.effect hC hM hok hs hp.1 hk2 hcs hi hF hstep fun g' a' w' hl1 H' => ?_
        obtain ⟨os1, lim1⟩ := h1
        simp only at hl1
        subst hl1
        obtain ⟨done2, r2, ss2, ids2, g2, os2, fr2, H2, hd2, hr2, hh2⟩ := Amid.advance hM r'' (i :: done) l ids g' os1 fr1 H' hl hr
        exact ih _ a' w' done2 r2 ss2 ids2 g2 os2 fr2 (by omega) H2 hd2 hr2 hh2
      · cases hr
    · have ht := drawGo_behind hl k (by simp) hek i hir
      have := H.before hM ho hall (Array.getElem?_eq_some_iff.1 hok).1 ht
      exact absurd (H.sub k this) (place_spec hp.1).1
def drawOf (P : Program) (nt : Nat) (plan : Nat → Option (List Nat)) : DrawFn := fun id ops =>
 match plan id with
 | some r => let b := Region.before ops; if masksOk ops (fun i => b.getD i 0) then drawGo P nt ops (fun i => b.getD i 0) (rewList ops (fun i => b.getD i 0)) [] r else none
 | none => none
theorem Stands.drawn {lim nt : Nat} {F : Fence} {g0 : Gh} {os0 : List Obj} {fr : Fr} {a : Act} (h : Stands D0 lim B w0 nt F g0 os0 g os fr a w) (n : Nat) : Stands D0 lim B w0 nt F g0 os0 g os fr a { w with drawn := n } := by
 refine ⟨⟨h.inv.pend, ⟨h.inv.low.os, h.inv.low.tape, h.inv.low.output, h.inv.low.size, h.inv.low.block⟩, h.inv.base, h.inv.rdok, h.inv.dom, h.inv.inj, h.inv.high, h.inv.cells, h.inv.maps, h.inv.loops, h.inv.defs, h.inv.gl, h.inv.bfok, h.inv.blds⟩, h.ext, h.kept, h.fr, h.size, h.marks, h.rnd⟩
theorem drawOf_ok {C : CallFn} (hC : CallOK P C) (hm : P.follows .mixedOrders = true) (nt : Nat) (plan : Nat → Option (List Nat)) : DrawOK P C nt (drawOf P nt plan) := by
 intro id ops ss h D0 B w0 F hF g0 os0 g os fr a w lim fr' h' Q hS hr hQ
 unfold drawOf at h
 split at h
 · rename_i r _
   simp only at h
   split at h
   · rename_i hmk
     have hM := masks_of hmk
     have hS1 := hS.drawn (w.drawn + 1)
     have H : Amid D0 P B w0 nt F g0 os0 lim ops (fun i => (Region.before ops).getD i 0) (rewList ops (fun i => (Region.before ops).getD i 0)) [] (Array.replicate ops.size false) (fun _ => none) g os fr a { w with drawn := w.drawn + 1 } :=
      ⟨hS1.inv, hS1.ext, hS1.kept, fun t _ => hS1.fr t trivial, hS1.size, ⟨hS1.marks, hS1.rnd⟩, fun i hi => (by cases hi), fun i j id h => (by cases h), fun i id h => (by cases h), by simp, fun i hi => (by
       simp only [Array.getD_eq_getD_getElem?] at hi
       by_cases q : i < ops.size <;> simp [q] at hi), fun i hi => (by
       simp only [Array.getD_eq_getD_getElem?] at hi
       by_cases q : i < ops.size <;> simp [q] at hi), ⟨fun i hi => (by cases hi), fun i hi => (by cases hi)⟩⟩
     refine wpIn_region_any hm ?_
     obtain ⟨done2, r2, ss2, ids2, g2, os2, fr2, H2, hd2, hr2, hh2⟩ := Amid.advance hM r [] ss _ g os fr H h hr
     refine any_wp hC hF hM hQ _ _ _ _ done2 r2 ss2 ids2 g2 os2 fr2 ?_ H2 hd2 hr2 hh2
     have := List.length_filter_le (fun i => !(Array.replicate ops.size false).getD i true) (List.range ops.size)
     simpa [leftOf] using this
   · cases h
 · cases h
@[reducible] def siteRel (P : Program) : SiteRel := ⟨fun ps a b nt params assign body => params.toList = ps ∧ (∀ p ∈ ps, p < nt) ∧ ∃ plan k k1 k2, compCode P nt (drawOf P nt plan) assign k = some (a, k1) ∧ compCode P nt (drawOf P nt plan) body k1 = some (b, k2)⟩
omit [SiteRel] in
theorem siteOK (P : Program) (nt : Nat) (plan : Nat → Option (List Nat)) : @SiteOK _ (siteRel P) P nt (drawOf P nt plan) := fun ps assign body k k1 k2 a b hps h1 h2 =>
 ⟨rfl, fun p hp => by simpa using List.all_eq_true.1 hps p hp, plan, k, k1, k2, h1, h2⟩
omit [SiteRel] in
theorem siteUse {P : Program} (hm : P.follows .mixedOrders = true) : @SiteUse _ (siteRel P) P := fun ps a b nt params assign body ⟨h1, h2, plan, k, k1, k2, h3, h4⟩ =>
 ⟨h1, h2, drawOf P nt plan, k, k1, k2, fun C hC => @drawOf_ok _ (siteRel P) P C hC hm nt plan, siteOK P nt plan, h3, h4⟩
end Dk
