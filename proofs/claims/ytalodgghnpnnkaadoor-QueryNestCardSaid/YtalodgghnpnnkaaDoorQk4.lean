/- D, fourth part: calls that may panic, and functions that recover. No condition. -/
import Derived.Test.YtalodgghnpnnkaaDoorQk3
set_option linter.unusedVariables false
set_option linter.unusedSimpArgs false
set_option linter.unusedSectionVars false
namespace Dk
open Go Go.RowKit
variable [Globs] [SiteRel] {P : Program} {B : Nat} {w0 w : World} {g : Gh} {os : List Obj}
section
variable {F : Fence} (hF : Free F) {o : Oper} (hd : ∀ c, o.op ≠ .defer c) {a : Act} {next : Act → World → Prop} {Q : Exit → Act → World → Prop}
include hF hd
theorem wp_mays {f : FuncId} {args : Array Value} (h : (execOp a.eval o).run P w = (callFunc f args).run P w)
 {R : Ending → World → Prop} (he : EntersM P f args w R) (hn : ∀ u w', R (.returned u) w' → next (a.put o.dst u) w') (hp : ∀ ch w', R (.panicked ch) w' → Q (.panic ch) a w') (ho : ∀ w', ¬ R .outgrown w') : o.wpIn F 0 P a w next Q := by
 refine ⟨fun f _ => hF.fn f, ?_⟩
 rw [Oper.semAt_eq _ _ _ hd, h]
 unfold EntersM at he
 split at he
 · rename_i heq
   rw [heq]
   simp only [Oper.uponIn]
   refine ⟨fun q => (by rw [hF.depth] at q; cases q), hF.calls (Calls.mono he fun e w'' q => ?_)⟩
   cases e with
   | returned v => exact hn _ _ q
   | panicked ch => exact hp _ _ q
   | outgrown => exact (ho _ q).elim
 · exact he.elim
end
def mayOf (M : Nat → Bool) : DOp → Option (X × List X)
 | .call f args => if M f then some (.v (.fn (.func f) [] []), args) else none
 | .callv x args => some (x, args)
 | _ => none
theorem may_op {C : CallFn} (hC : CallOK P C) {F : Fence} (hF : Free F) (hI : Inv B w0 g os w) {fr : Fr} {a : Act} {o : Oper} {d : DOp} (H : ∀ x ∈ o.op.operands, Ans g os fr a.eval x) (hc : compOp P o = some d) {M : Nat → Bool} {x : X} {args : List X} (hm : mayOf M d = some (x, args)) {lim : Nat} {r : EV} {h' : Hp}
 (h : act C (.may x args) fr ⟨os, lim⟩ = some (r, h')) :
 h'.lim = lim ∧ ∀ (next : Act → World → Prop) (Q : Exit → Act → World → Prop), (∀ y u w', r = .tup [.p (.bool false), y] → Went lim B w0 g os h'.objs y u w' → next (a.put o.dst u) w') →
  (∀ y u w', r = .tup [.p (.bool true), y] → Went lim B w0 g os h'.objs y u w' → Q (.panic [{ v := u, recovered := false }]) a w') → o.wpIn F 0 P a w next Q := by
 have hd := comp_nodefer hc
 obtain ⟨dst, op, type, pos, after, guard⟩ := o
 have fin : ∀ {f : FuncId} {vs : Array Value}, EntersM P f vs w (MayW lim B w0 g os h'.objs r) → (execOp a.eval ⟨dst, op, type, pos, after, guard⟩).run P w = (callFunc f vs).run P w → ∀ (next : Act → World → Prop) (Q : Exit → Act → World → Prop), (∀ y u w', r = .tup [.p (.bool false), y] → Went lim B w0 g os h'.objs y u w' → next (a.put dst u) w') →
  (∀ y u w', r = .tup [.p (.bool true), y] → Went lim B w0 g os h'.objs y u w' → Q (.panic [{ v := u, recovered := false }]) a w') → Oper.wpIn F 0 P ⟨dst, op, type, pos, after, guard⟩ a w next Q := by
  intro f vs q2 he next Q hn hp
  refine wp_mays hF hd (f := f) (args := vs) he q2 (fun u w' q => ?_) (fun ch w' q => ?_) (fun w' q => q)
  · obtain ⟨y, e1, e2⟩ := q
    exact hn y u w' e1 e2
  · obtain ⟨y, u, e1, e2, e3⟩ := q
    subst e2
    exact hp y u w' e1 e3
 cases op
 case call c =>
  simp only [compOp, Op.operands] at hc H
  split at hc
  · rename_i cargs hargs
    have Hc : ∀ x ∈ c.args.toList, Ans g os fr a.eval x := fun x hx => H x (by simp [Call.operands]; right; simpa using hx)
    have hv := args_ok Hc hargs
    split at hc
    · rename_i b hb
      unfold compBuiltin at hc
      (repeat' split at hc) <;> first | (cases hc; done) | (cases hc; simp [mayOf] at hm; done)
    · rename_i f hf
      split at hc
      · rename_i hdx
        cases hc
        unfold extOp at hdx
        (repeat' split at hdx) <;> first | (cases hdx; done) | (cases hdx; simp [mayOf] at hm; done)
      cases hc
      simp only [mayOf] at hm
      split at hm
      · cases hm
        simp only [act, X.ev, List.nil_append, List.append_nil] at h
        obtain ⟨q1, q2⟩ := hC.mays B w0 w g os lim f _ _ r h' hI hv h
        refine ⟨q1, fin q2 ?_⟩
        have e1 : (c.args.toList.map a.eval).toArray = c.args.map a.eval := (arr_eq Array.toList_map).symm
        rw [e1]
        simp [execOp, resolve, hf, Act.eval, Deferred.ofValue, invoke]
      · cases hm
    · rename_i x1 hx1 hx
      split at hc
      · rename_i X hX
        cases hc
        simp only [mayOf, Option.some.injEq, Prod.mk.injEq] at hm
        obtain ⟨rfl, rfl⟩ := hm
        simp only [act] at h
        split at h
        · rename_i f fa fb he
          have hxv := H x1 (by simp [Call.operands, hx]) X hX
          rw [he] at hxv
          simp only [RV] at hxv
          obtain ⟨va, vb, hxe, ha, hb⟩ := hxv
          obtain ⟨q1, q2⟩ := hC.mays B w0 w g os lim f _ _ r h' hI (RVs_append (RVs_append ha hv) hb) h
          refine ⟨q1, fin q2 ?_⟩
          have e1 : (va.toList ++ c.args.toList.map a.eval ++ vb.toList).toArray = va ++ c.args.map a.eval ++ vb := (arr_eq (by rw [Array.toList_append, Array.toList_append, Array.toList_map])).symm
          rw [e1]
          simp [execOp, resolve, hx, hxe, Deferred.ofValue, invoke, Array.append_assoc]
        · cases h
      · cases hc
    · cases hc
  · cases hc
 all_goals (simp only [compOp, compAssign] at hc; (repeat' split at hc) <;> first | (cases hc; done) | (simp only [Option.map_eq_some_iff] at hc; obtain ⟨_, _, rfl⟩ := hc; simp [mayOf] at hm; done) | (cases hc; simp [mayOf] at hm; done) | skip)
end Dk
namespace Dk
open Go Go.RowKit
variable [Globs] [SiteRel] {D0 : List Deferred × Bool} {P : Program} {B : Nat} {w0 w : World} {g : Gh} {os : List Obj}
def cl (n : Nat) : Step := ⟨some n, .mv (.v (.tup [])), none, []⟩
def mayDC (M : Nat → Bool) (k : Nat) (tail : DC) : List Step → DC
 | [] => tail
 | s :: r => match mayOf M s.op with
  | none => .seq (.ops [s]) (mayDC M k tail r)
  | some (x, args) => match s.guard with
   | none => .seq (.ops [⟨some 3000, .may x args, none, s.chk⟩, ⟨some 3001, .ext (.t 3000) 0, none, []⟩])
    (.cond (.t 3001)
     (.seq (.ops [⟨some 3002, .ext (.t 3000) 1, none, []⟩, cl 3000, cl 3001]) (.exit k))
     (.seq (.ops [⟨s.dst, .ext (.t 3000) 1, none, []⟩, cl 3000, cl 3001]) (mayDC M k tail r)))
   | some _ => .ops stuckL
def FEq (fr fr1 : Fr) : Prop := ∀ t, fr1.get t = fr.get t ∨ (3000 ≤ t ∧ fr1.get t = .tup [])
omit [Globs] [SiteRel] in
theorem FEq.refl (fr : Fr) : FEq fr fr := fun _ => .inl rfl
omit [Globs] [SiteRel] in
theorem FEq.low {fr fr1 : Fr} (h : FEq fr fr1) {t : Nat} (ht : t < 3000) : fr1.get t = fr.get t := (h t).resolve_right (fun q => by omega)
def Panics (k : Nat) (fr : Fr) (y : EV) (h : Hp) (e : Ex) (fr' : Fr) (h' : Hp) : Prop := e = .exit k ∧ h' = h ∧ fr'.get 3002 = y ∧ FEq fr ((3002, .tup []) :: fr')
omit [Globs] [SiteRel] in
theorem exec_ops_nil {C : CallFn} {b : DC} {l : List Step} {fr : Fr} {h : Hp} {o : Out} (e : exec C (.seq (.ops l) b) (fr, h) = some o) : ∃ fr1 h1, runSteps C l fr h = some (fr1, h1) ∧ exec C b (fr1, h1) = some o := exec_seq_ops e
omit [Globs] [SiteRel] in
theorem runSteps_cons {C : CallFn} {s : Step} {l : List Step} {fr fr' : Fr} {h h' : Hp} (e : runSteps C (s :: l) fr h = some (fr', h')) : ∃ fr1 h1, runStep C s fr h = some (fr1, h1) ∧ runSteps C l fr1 h1 = some (fr', h') := by
 simp only [runSteps] at e
 split at e
 · rename_i fr1 h1 q; exact ⟨fr1, h1, q, e⟩
 · cases e
omit [Globs] [SiteRel] in
theorem runStep_plain {C : CallFn} {d : Option Nat} {op : DOp} {cs : List Chk} {fr fr' : Fr} {h h' : Hp} (e : runStep C ⟨d, op, none, cs⟩ fr h = some (fr', h')) : ∃ v, runOp C op fr h = some (v, h') ∧ still fr h' cs = true ∧ fr' = fr.put d v := by
 rcases runStep_cases e with ⟨_, v, q1, q2, q3⟩ | ⟨q1, _⟩
 · exact ⟨v, q1, q2, q3⟩
 · cases q1
omit [Globs] [SiteRel] in
theorem run_cl {C : CallFn} {a b : Nat} {fr fr' : Fr} {h h' : Hp} (e : runSteps C [cl a, cl b] fr h = some (fr', h')) : fr' = (b, .tup []) :: (a, .tup []) :: fr ∧ h' = h := by
 obtain ⟨f1, h1, e1, e⟩ := runSteps_cons e
 obtain ⟨f2, h2, e2, e⟩ := runSteps_cons e
 simp only [runSteps, Option.some.injEq, Prod.mk.injEq] at e
 obtain ⟨rfl, rfl⟩ := e
 obtain ⟨v, q1, _, rfl⟩ := runStep_plain e1
 obtain ⟨u, q2, _, rfl⟩ := runStep_plain e2
 simp [runOp, DOp.kind, look, X.ev] at q1 q2
 obtain ⟨rfl, rfl⟩ := q1
 obtain ⟨rfl, rfl⟩ := q2
 exact ⟨rfl, rfl⟩
omit [Globs] [SiteRel] in
theorem run_ext {C : CallFn} {d : Option Nat} {t i : Nat} {fr fr' : Fr} {h h' : Hp} (e : runStep C ⟨d, .ext (.t t) i, none, []⟩ fr h = some (fr', h')) : ∃ vs y, fr.get t = .tup vs ∧ vs[i]? = some y ∧ fr' = fr.put d y ∧ h' = h := by
 obtain ⟨v, q1, _, rfl⟩ := runStep_plain e
 simp only [runOp, DOp.kind, look, X.ev] at q1
 split at q1
 · rename_i vs hx
   simp only [Option.map_eq_some_iff] at q1
   obtain ⟨y, q1, q2⟩ := q1
   cases q2
   exact ⟨vs, v, hx, q1, rfl, rfl⟩
 · cases q1
theorem mayDC_cons {C : CallFn} {M : Nat → Bool} {k : Nat} {tail : DC} {s : Step} {r : List Step} (hs : ∀ d, s.dst = some d → d < 3000) {fr fr' : Fr} {h h' : Hp} {e : Ex} (hx : exec C (mayDC M k tail (s :: r)) (fr, h) = some (e, fr', h')) :
 (mayOf M s.op = none ∧ ∃ fr1 h1, runStep C s fr h = some (fr1, h1) ∧ exec C (mayDC M k tail r) (fr1, h1) = some (e, fr', h')) ∨
 (s.guard = none ∧ ∃ x args vs h1 y, mayOf M s.op = some (x, args) ∧ act C (.may x args) fr h = some (.tup vs, h1) ∧ still fr h1 s.chk = true ∧ vs[1]? = some y ∧
  ((vs[0]? = some (.p (.bool true)) ∧ Panics k fr y h1 e fr' h') ∨
   (vs[0]? = some (.p (.bool false)) ∧ ∃ fr1, FEq (fr.put s.dst y) fr1 ∧ exec C (mayDC M k tail r) (fr1, h1) = some (e, fr', h')))) := by
 simp only [mayDC] at hx
 split at hx
 · rename_i hm
   obtain ⟨f1, h1, e1, e2⟩ := exec_ops_nil hx
   obtain ⟨f2, h2, e3, e4⟩ := runSteps_cons e1
   simp only [runSteps, Option.some.injEq, Prod.mk.injEq] at e4
   obtain ⟨rfl, rfl⟩ := e4
   exact .inl ⟨hm, _, _, e3, e2⟩
 · rename_i x args hm
   split at hx
   · rename_i hg
     obtain ⟨f1, h1, e1, e2⟩ := exec_ops_nil hx
     obtain ⟨f2, h2, e3, e4⟩ := runSteps_cons e1
     obtain ⟨f3, h3, e5, e6⟩ := runSteps_cons e4
     simp only [runSteps, Option.some.injEq, Prod.mk.injEq] at e6
     obtain ⟨rfl, rfl⟩ := e6
     obtain ⟨rv, q1, q2, rfl⟩ := runStep_plain e3
     obtain ⟨vs, b, q3, q4, rfl, rfl⟩ := run_ext e5
     rw [get_put, if_pos rfl] at q3
     subst q3
     simp only [runOp, DOp.kind] at q1
     simp only [exec, X.ev] at e2
     rw [get_put, if_pos rfl] at e2
     split at e2
     · rename_i t
       cases t with
       | true =>
        simp only [if_true] at e2
        obtain ⟨f4, h4, e7, e8⟩ := exec_ops_nil (b := .exit k) (by simpa only [exec] using e2)
        obtain ⟨f5, h5, e9, e10⟩ := runSteps_cons e7
        obtain ⟨vs', y, p1, p2, rfl, rfl⟩ := run_ext e9
        rw [get_put, if_neg (by decide), get_put, if_pos rfl] at p1
        cases p1
        obtain ⟨rfl, rfl⟩ := run_cl e10
        simp only [exec, Option.some.injEq, Prod.mk.injEq] at e8
        obtain ⟨rfl, rfl, rfl⟩ := e8
        refine .inr ⟨hg, x, args, vs, _, y, hm, q1, q2, p2, .inl ⟨q4, rfl, rfl, ?_, fun t => ?_⟩⟩
        · simp [Fr.get, Fr.put]
        · simp only [Fr.get, Fr.put]
          by_cases h0 : 3002 = t
          · subst h0; right; simp
          · by_cases h1 : 3001 = t
            · subst h1; right; simp
            · by_cases h2 : 3000 = t
              · subst h2; right; simp
              · left; simp [h0, h1, h2]
       | false =>
        simp only [Bool.false_eq_true, if_false] at e2
        obtain ⟨f4, h4, e7, e8⟩ := exec_ops_nil (b := mayDC M k tail r) (by simpa only [exec] using e2)
        obtain ⟨f5, h5, e9, e10⟩ := runSteps_cons e7
        obtain ⟨vs', y, p1, p2, rfl, rfl⟩ := run_ext e9
        rw [get_put, if_neg (by decide), get_put, if_pos rfl] at p1
        cases p1
        obtain ⟨rfl, rfl⟩ := run_cl e10
        refine .inr ⟨hg, x, args, vs, _, y, hm, q1, q2, p2, .inr ⟨q4, _, fun t => ?_, e8⟩⟩
        by_cases h1 : 3001 = t
        · subst h1; right; simp [Fr.get]
        · by_cases h2 : 3000 = t
          · subst h2; right; simp [Fr.get]
          · left
            cases hd : s.dst with
            | none => simp [Fr.get, Fr.put, h1, h2]
            | some d => simp [Fr.get, Fr.put, h1, h2]
     · cases e2
   · exact (stuck_none hx).elim
theorem FEq.rv {fr fr1 : Fr} (hf : FEq fr fr1) {a : Act} (hsz : a.tmps.size ≤ 3000) {t : Nat} (h : RV g os (fr.get t) (a.eval (.tmp t))) : RV g os (fr1.get t) (a.eval (.tmp t)) := by
 rcases hf t with q | ⟨q1, q2⟩
 · rw [q]; exact h
 · rw [q2]
   have : a.eval (.tmp t) = undef := by
    simp only [Act.eval, Array.getD_eq_getD_getElem?]
    rw [Array.getElem?_eq_none (by omega)]
    rfl
   rw [this]
   exact RV.undef g os
theorem Stands.feq {lim nt : Nat} {F : Fence} {g0 : Gh} {os0 : List Obj} {fr fr1 : Fr} {a : Act} (h : Stands D0 lim B w0 nt F g0 os0 g os fr a w) (hf : FEq fr fr1) (hnt : nt ≤ 3000) : Stands D0 lim B w0 nt F g0 os0 g os fr1 a w :=
 ⟨h.inv, h.ext, h.kept, fun t ht => hf.rv (by rw [h.size]; exact hnt) (h.fr t ht), h.size, h.marks, h.rnd⟩
structure PanS (R : List Nat) (D0 : List Deferred × Bool) (lim B : Nat) (w0 : World) (nt : Nat) (g0 : Gh) (os0 : List Obj) (g : Gh) (os : List Obj) (fr : Fr) (a : Act) (w : World) : Prop where
 inv : Inv B w0 g os w
 ext : Ext g0 os0 g os
 kept : Kept lim g0 os0 g os
 fr : ∀ t ∈ R, RV g os (fr.get t) (a.eval (.tmp t))
 size : a.tmps.size = nt
 marks : MarksD D0 g0 g a.defers
def PanQ (R : List Nat) (D0 : List Deferred × Bool) (lim B : Nat) (w0 : World) (nt : Nat) (g0 : Gh) (os0 : List Obj) (fr' : Fr) (h' : Hp) (Q : Exit → Act → World → Prop) : Prop :=
 ∀ g' a' w' u, PanS R D0 lim B w0 nt g0 os0 g' h'.objs fr' a' w' → RV g' h'.objs (fr'.get 3002) u → h'.lim = lim → Q (.panic [{ v := u, recovered := false }]) a' w'
theorem stepsM_wp {C : CallFn} (hC : CallOK P C) {nt : Nat} (hnt : nt ≤ 3000) {F : Fence} (hF : Free F) {g0 : Gh} {os0 : List Obj} {ops : Array Oper} {Q : Exit → Act → World → Prop} {lim : Nat} {M : Nat → Bool} {k : Nat} {tail : DC} {l2 : List Nat} {e : Ex} {fr' : Fr} {h' : Hp}
 {R : List Nat} (hR : ∀ t ∈ R, t < 3000) (hP : e = .exit k → PanQ R D0 lim B w0 nt g0 os0 fr' h' Q) : ∀ (l : List Nat) (ol : List Oper) (ss : List Step),
 l.map (ops[·]?) = ol.map some → compList P nt ops ol = some ss → ∀ (g : Gh) (os : List Obj) (fr : Fr) (a : Act) (w : World), Stands D0 lim B w0 nt F g0 os0 g os fr a w → exec C (mayDC M k tail ss) (fr, ⟨os, lim⟩) = some (e, fr', h') →
 (∀ g1 os1 fr1 a1 w1, Stands D0 lim B w0 nt F g0 os0 g1 os1 fr1 a1 w1 → exec C tail (fr1, ⟨os1, lim⟩) = some (e, fr', h') → wpOpsIn F 0 P ops Q l2 a1 w1) → wpOpsIn F 0 P ops Q (l ++ l2) a w
 | [], ol, ss, hl, hc, g, os, fr, a, w, hS, hr, hQ => by
  have : ol = [] := by simpa using hl.symm
  subst this
  simp [compList] at hc
  subst hc
  exact hQ g os fr a w hS hr
 | i :: l, ol, ss, hl, hc, g, os, fr, a, w, hS, hr, hQ => by
  cases ol with
  | nil => simp at hl
  | cons o ol =>
   simp only [List.map_cons, List.cons.injEq] at hl
   obtain ⟨ho, hl⟩ := hl
   simp only [compList] at hc
   split at hc
   · rename_i s hs
     split at hc
     · rename_i ss' hss
       cases hc
       obtain ⟨h1, h2, h3, h4, h5⟩ := compStep_ok hs
       have go : ∀ b, GuardIs fr s.guard b → Region.wanted o (yielded ops a.tmps) = b := fun b hb =>
        wanted_ok (g := g) (os := os) (fr := fr) h5 hS.size (fun t b' _ => hS.fr t trivial) hb
       simp only [List.cons_append, wpOpsIn, ho]
       rcases mayDC_cons (fun d hd => by rw [h1] at hd; exact Nat.lt_of_lt_of_le (h4 d hd) hnt) hr with ⟨_, fr1, hp1, hstep, hx⟩ | ⟨hg, x, args, vs, hp1, y, hm, hact, _, hy, hx⟩
       · obtain ⟨os1, lim1⟩ := hp1
         have next : ∀ r u w1, Went lim B w0 g os os1 r u w1 → lim1 = lim → fr1 = fr.put o.dst r → wpOpsIn F 0 P ops Q (l ++ l2) (a.put o.dst u) w1 := by
          intro r u w1 hw e1 e2
          subst e1 e2
          obtain ⟨g1, hS1⟩ := hS.put h4 hw
          exact stepsM_wp hC hnt hF hR hP l ol ss' hl hss g1 os1 _ _ w1 hS1 hx hQ
         rcases runStep_cases hstep with ⟨hg, v, hro, _, hf⟩ | ⟨hg, hf, hh⟩
         · rw [go true hg]
           simp only [if_true]
           obtain ⟨q1, q2⟩ := op_wp hC hF hS.inv (fun x _ => hS.fr.ans hS.inv.gl fun _ _ => trivial) h3 hro
           exact (q2 _ _ fun u w' hw => next v u w' hw q1 (by rw [hf, h1]))
         · rw [go false hg]
           cases hh
           simp only [Bool.false_eq_true, if_false]
           exact ⟨fun f _ => hF.fn f, next (.tup []) undef w (Went.stay hS.inv) rfl (by rw [hf, h1])⟩
       · rw [go true (by rw [hg]; rfl)]
         simp only [if_true]
         obtain ⟨q1, q2⟩ := may_op hC hF hS.inv (fun x _ => hS.fr.ans hS.inv.gl fun _ _ => trivial) h3 hm hact
         obtain ⟨os1, lim1⟩ := hp1
         simp only at q1
         subst q1
         refine q2 _ _ (fun z u w' hz hw => ?_) (fun z u w' hz hw => ?_)
         · cases hz
           simp at hy hx
           subst hy
           rw [h1] at hx
           obtain ⟨fr1, hf, hx⟩ := hx
           obtain ⟨g1, hS1⟩ := hS.put h4 hw
           exact stepsM_wp hC hnt hF hR hP l ol ss' hl hss g1 os1 _ _ w' (hS1.feq hf hnt) hx hQ
         · cases hz
           simp at hy hx
           subst hy
           obtain ⟨e1, e2, e3, e4⟩ := hx
           subst e2
           obtain ⟨g1, hI, hE, hK, hRv⟩ := hw
           refine hP e1 g1 a w' u ⟨hI, hS.ext.trans hE, hS.kept.trans hS.ext hK, fun t ht => ?_, hS.size, hS.marks.mono hK.df⟩ (by rw [e3]; exact hRv) rfl
           have := e4.low (hR t ht)
           have h2 : fr'.get t = fr.get t := by
            rw [← this]
            have := hR t ht
            simp only [Fr.get]
            rw [if_neg (by omega)]
           rw [h2]
           exact hS.fr.mono hE t trivial
     · cases hc
   · cases hc
end Dk
namespace Dk
open Go Go.RowKit
variable [Globs] [SiteRel] {D0 : List Deferred × Bool} {P : Program} {B : Nat} {w0 w : World} {g : Gh} {os : List Obj}
theorem Amid.effectM {C : CallFn} (hC : CallOK P C) {nt : Nat} {F : Fence} {g0 : Gh} {os0 : List Obj} {lim : Nat} {ops : Array Oper} {b : Nat → Nat} {rl : List Nat} (hM : Masks ops b) {done : List Nat} {listed : Array Bool} {ids : Nat → Option Nat} {fr : Fr} {a : Act}
 (H : Amid D0 P B w0 nt F g0 os0 lim ops b rl done listed ids g os fr a w) {i : Nat} {o : Oper} {s : Step} (ho : ops[i]? = some o) (hs : compStep P nt ops o = some s) (hp : placeOk P ops b rl done i o = true) (hk : s.op.kind = 2) {cs : List Chk} (hcs : (if s.op.kind = 2 then chksOf P nt ops (b i) done else some []) = some cs)
 (hready : i ∈ Region.ready .any ops listed) (hF : Free F) {h1 : Hp} {M : Nat → Bool} {x : X} {args : List X} {vs : List EV} (hgd : s.guard = none) (hm : mayOf M s.op = some (x, args)) (hact : act C (.may x args) fr ⟨os, lim⟩ = some (.tup vs, h1)) (hst : still fr h1 cs = true) {K : Act → World → Prop} {Q : Exit → Act → World → Prop}
 (hn : ∀ y g' a' w', vs = [.p (.bool false), y] → h1.lim = lim → Amid D0 P B w0 nt F g0 os0 lim ops b rl (i :: done) (listed.setIfInBounds i true) ids g' h1.objs (fr.put o.dst y) a' w' → K a' w')
 (hp2 : ∀ y u g' w', vs = [.p (.bool true), y] → h1.lim = lim → Inv B w0 g' h1.objs w' → Ext g os g' h1.objs → Kept lim g os g' h1.objs → RV g' h1.objs y u → Q (.panic [{ v := u, recovered := false }]) a w') : wpOpIn F 0 P ops Q i K a w := by
 obtain ⟨hun, o', ho', hall⟩ := mem_ready.1 hready
 rw [ho] at ho'; cases ho'
 obtain ⟨hi, hdeps, _⟩ := place_spec hp
 obtain ⟨c1, c2, c3, c4, c5⟩ := compStep_ok hs
 have hlt : i < listed.size := by rw [H.lsize]; exact (Array.getElem?_eq_some_iff.1 ho).1
 have hsee := H.sees hM ho hall fun t ht j oj hj hd => (hdeps t ht j oj hj hd).imp (fun q => q.2) (fun q => q.1)
 have hpl := H.placed.cons ho hs hp
 have go : ∀ x, GuardIs fr s.guard x → Region.wanted o (yielded ops a.tmps) = x := fun x hx =>
  wanted_ok (g := g) (os := os) (fr := fr) c5 H.size (fun t x' e => H.frs t (hsee t (looks_guard c5 e))) hx
 have hans : ∀ x ∈ o.op.operands, Ans g os fr a.eval x := by
  intro x hx
  refine FrOn.ans (S := fun t => t ∈ o.looksAt ops) (fun t ht => ?_) H.inv.gl (fun t e => looks_op hx e)
  exact H.frs t (hsee t ht)
 have hsub : ∀ k, (listed.setIfInBounds i true).getD k false = true → k ∈ i :: done := fun k hk => by
  by_cases e : i = k
  · subst e; simp
  · rw [set_ne e] at hk
    exact List.mem_cons_of_mem _ (H.sub k hk)
 have hclosed : ∀ k, (listed.setIfInBounds i true).getD k false = true → ∀ j, j < ops.size → (b k).testBit j = true → (listed.setIfInBounds i true).getD j false = true := fun k hk j hj ht => by
  by_cases e : i = k
  · subst e
    exact getD_set_true (H.before hM ho hall hj ht)
  · rw [set_ne e] at hk
    exact getD_set_true (H.closed k hk j hj ht)
 have hleft : ∀ t, Left ops (i :: done) (listed.setIfInBounds i true) t → Left ops done listed t := fun t ht k hk hu ok hok => by
  refine ht k (List.mem_cons_of_mem _ hk) ?_ ok hok
  have hne : i ≠ k := fun e => hi (e.symm ▸ hk)
  rw [set_ne hne]
  exact hu
 have unl : ∀ k ∈ done, listed.getD k true = false → (b i).testBit k = false := fun k hkd hu => by
  cases hq : (b i).testBit k with
  | false => rfl
  | true =>
   obtain ⟨_, _, p1, _⟩ := H.recipes k hkd hu
   have := H.before hM ho hall (Array.getElem?_eq_some_iff.1 p1).1 hq
   rw [getD_true_of_false this] at hu
   cases hu
 -- in the same memory
 have fin0 : ∀ (v : EV) (u : Value), RV g os v u → Amid D0 P B w0 nt F g0 os0 lim ops b rl (i :: done) (listed.setIfInBounds i true) ids g os (fr.put o.dst v) (a.put o.dst u) w := by
  intro v u hv
  refine ⟨H.inv, H.ext, H.kept, fun t ht => FrOn.put H.frs o.dst (by rw [H.size]; exact c4) hv t (.inl (hleft t ht)), by rw [size_put]; exact H.size, by rw [defers_put]; exact H.side, fun k hk hu => ?_, H.ids_inj, H.ids_lt, by simpa using H.lsize, hsub, hclosed, hpl⟩
  obtain ⟨hki, hu⟩ := set_un hlt hu
  have hkd : k ∈ done := (List.mem_cons.1 hk).resolve_left hki
  obtain ⟨f1, f2⟩ := H.placed.fresh hM ho hi hkd (.inr (unl k hkd hu)) fr v
  exact (H.recipes k hkd hu).frame f1 f2
 -- how what is done goes on, in memory that went on
 have fin : s.op.kind = 2 → ∀ (v : EV) (u : Value) (w' : World) (os' : List Obj) (g' : Gh), Inv B w0 g' os' w' → Ext g os g' os' → Kept lim g os g' os' → RV g' os' v u → (os' = os ∨ still fr ⟨os', lim⟩ cs = true) →
  Amid D0 P B w0 nt F g0 os0 lim ops b rl (i :: done) (listed.setIfInBounds i true) ids g' os' (fr.put o.dst v) (a.put o.dst u) w' := by
  intro hk2 v u w' os' g' hI hE hK hv hst
  rw [if_pos hk2] at hcs
  refine ⟨hI, H.ext.trans hE, H.kept.trans H.ext hK, fun t ht => FrOn.put (H.frs.mono hE) o.dst (by rw [H.size]; exact c4) hv t (.inl (hleft t ht)), by rw [size_put]; exact H.size, by rw [defers_put]; exact H.side.mono hE hK.df, fun k hk hu => ?_, H.ids_inj, fun k id h => Nat.lt_of_lt_of_le (H.ids_lt k id h) hE.len, by simpa using H.lsize, hsub, hclosed, hpl⟩
  obtain ⟨hki, hu⟩ := set_un hlt hu
  have hkd : k ∈ done := (List.mem_cons.1 hk).resolve_left hki
  obtain ⟨f1, f2⟩ := H.placed.fresh hM ho hi hkd (.inr (unl k hkd hu)) fr v
  refine Recipe.frame ?_ f1 f2
  obtain ⟨ok, sk, p1, p2, p3, p4⟩ := H.recipes k hkd hu
  obtain ⟨d1, d2, d3, d4, d5⟩ := compStep_ok p2
  have hnb := unl k hkd hu
  obtain ⟨c, hc, hcin⟩ := chksOf_get hcs k hkd
  simp only [chkOf, hnb, Bool.false_eq_true, if_false, p1, p2] at hc
  refine ⟨ok, sk, p1, p2, p3, ?_⟩
  rcases p4 with p | ⟨p5, p6, fri, v', p7, p8, p9⟩ | ⟨p5, p6, fri, fk, obk, idk, p7, p8, p9, p10, p11, p12, p13, p14, p15⟩
  · exact .inl p
  · refine .inr (.inl ⟨p5, p6, ?_⟩)
    by_cases hh : sk.op.heapy = true
    · rcases hst with rfl | hst
      · exact ⟨fri, v', p7, p8, p9⟩
      · simp only [p6, hh, if_true] at hc
        split at hc
        · rename_i d hd
          cases hc
          obtain ⟨v2, r1, r2⟩ := still_get hst d sk.op sk.guard (hcin _ (by simp)) p5
          refine ⟨fr, v2, fun _ _ => rfl, r1, fun d' hd' => ?_⟩
          rw [d1, hd'] at hd
          cases hd
          exact r2.symm
        · cases hc
    · exact ⟨fri, v', p7, by rw [← p8]; exact look_pure (by simpa using hh) _ _ _, p9⟩
  · have hnn : sk.op.isNils = false := by
     cases hq : sk.op.isNils with
     | false => rfl
     | true => simp [p6, hq] at hc
    obtain ⟨k1, k2⟩ := (hK.old idk (H.ids_lt _ _ p9)).1 (p14 hnn)
    exact .inr (.inr ⟨p5, p6, fri, fk, obk, idk, p7, p8, p9, by rw [k2]; exact p10, p11, (hI.pend _ k1).1, fun hn => (by rw [hnn] at hn; cases hn), fun _ => k1, p15⟩)
 unfold wpOpIn
 simp only [ho]
 rw [go true (by rw [hgd]; rfl)]
 simp only [if_true]
 obtain ⟨q1, q2⟩ := may_op hC hF H.inv hans c3 hm hact
 obtain ⟨os', lim'⟩ := h1
 simp only at q1
 subst q1
 refine q2 _ _ (fun y u w' hy hw => ?_) (fun y u w' hy hw => ?_)
 · obtain ⟨g', r1, r2, r3, r4⟩ := hw
   exact hn y g' _ _ (by cases hy; rfl) rfl (fin hk y u w' os' g' r1 r2 r3 r4 (.inr hst))
 · obtain ⟨g', r1, r2, r3, r4⟩ := hw
   exact hp2 y u g' _ (by cases hy; rfl) rfl r1 r2 r3 r4
theorem Amid.feq {nt : Nat} {F : Fence} {g0 : Gh} {os0 : List Obj} {lim : Nat} {ops : Array Oper} {b : Nat → Nat} {rl : List Nat} {done : List Nat} {listed : Array Bool} {ids : Nat → Option Nat} {fr fr1 : Fr} {a : Act}
 (H : Amid D0 P B w0 nt F g0 os0 lim ops b rl done listed ids g os fr a w) (hf : FEq fr fr1) (hnt : nt ≤ 3000) (hlk : ∀ (i : Nat) (o : Oper), ops[i]? = some o → ∀ t ∈ o.looksAt ops, t < 3000) : Amid D0 P B w0 nt F g0 os0 lim ops b rl done listed ids g os fr1 a w := by
 refine ⟨H.inv, H.ext, H.kept, fun t ht => hf.rv (by rw [H.size]; exact hnt) (H.frs t ht), H.size, H.side, fun i hi hu => ?_, H.ids_inj, H.ids_lt, H.lsize, H.sub, H.closed, H.placed⟩
 have hr := H.recipes i hi hu
 obtain ⟨o, s, ho, hs, _⟩ := id hr
 refine hr.frame (fun o ho t ht => (hf.low (hlk i o ho t ht)).symm) (fun o' d ho' hd => ?_)
 rw [ho] at ho'; cases ho'
 exact hf.low (Nat.lt_of_lt_of_le ((compStep_ok hs).2.2.2.1 d hd) hnt)
theorem Amid.advanceM {C : CallFn} {nt : Nat} {F : Fence} {g0 : Gh} {os0 : List Obj} {lim : Nat} {ops : Array Oper} {b : Nat → Nat} {rl : List Nat} (hM : Masks ops b) (hnt : nt ≤ 3000) {M : Nat → Bool} {k : Nat} {tail : DC} {e : Ex} {listed : Array Bool} {a : Act} {fr' : Fr} {h' : Hp} : ∀ (r done : List Nat) (ss : List Step) (ids : Nat → Option Nat) (g : Gh) (os : List Obj) (fr : Fr),
 Amid D0 P B w0 nt F g0 os0 lim ops b rl done listed ids g os fr a w → drawGo P nt ops b rl done r = some ss → exec C (mayDC M k tail ss) (fr, ⟨os, lim⟩) = some (e, fr', h') →
 ∃ done' r' ss' ids' g' os' fr1, Amid D0 P B w0 nt F g0 os0 lim ops b rl done' listed ids' g' os' fr1 a w ∧ drawGo P nt ops b rl done' r' = some ss' ∧ exec C (mayDC M k tail ss') (fr1, ⟨os', lim⟩) = some (e, fr', h') ∧ (r' = [] ∨ ∃ i r'', r' = i :: r'' ∧ isEffect P ops rl i = true)
 | [], done, ss, ids, g, os, fr, H, hd, hr => ⟨done, [], ss, ids, g, os, fr, H, hd, hr, .inl rfl⟩
 | i :: r, done, ss, ids, g, os, fr, H, hd, hr => by
  obtain ⟨o, s, cs, l, ho, hs, hp, hcs, hl, rfl⟩ := drawGo_cons hd
  by_cases hke : s.op.kind = 2 ∨ rl.contains i = true
  · exact ⟨done, i :: r, _, ids, g, os, fr, H, hd, hr, .inr ⟨i, r, rfl, by rw [isEffect_of ho hs, Bool.or_eq_true]; exact hke.imp (fun q => by simpa using q) id⟩⟩
  · obtain ⟨hk, hrl⟩ := not_or.1 hke
    have hrl : rl.contains i = false := by simpa using hrl
    rw [if_neg hk] at hcs
    cases hcs
    obtain ⟨c1, c2, c3, c4, c5⟩ := compStep_ok hs
    rcases mayDC_cons (fun d hd => Nat.lt_of_lt_of_le (c4 d (by rw [← c1]; exact hd)) hnt) hr with ⟨_, fr1, h1, hstep, hx⟩ | ⟨_, x, args, vs, h1, y, hm, _⟩
    · have e : ({ s with chk := [] } : Step) = s := by
       cases s
       simp_all
      rw [e] at hstep
      obtain ⟨q1, g1, ids1, q2⟩ := H.step hM ho hs hp.1 hk hrl hstep
      obtain ⟨os1, lim1⟩ := h1
      simp only at q1
      subst q1
      exact Amid.advanceM hM hnt r (i :: done) l ids1 g1 os1 fr1 q2 hl hx
    · exfalso
      simp only at hm
      cases hop : s.op <;> rw [hop] at hm hk <;> simp [mayOf, DOp.kind] at hm hk
theorem any_wpM {C : CallFn} (hC : CallOK P C) {nt : Nat} {F : Fence} (hF : Free F) {g0 : Gh} {os0 : List Obj} {lim : Nat} {ops : Array Oper} {b : Nat → Nat} {rl : List Nat} (hM : Masks ops b) (hnt : nt ≤ 3000) {R : List Nat} (hR : ∀ t ∈ R, t < 3000) (hRd : ∀ (i : Nat) (o : Oper), ops[i]? = some o → ∀ t ∈ R, o.dst ≠ some t) (hlk : ∀ (i : Nat) (o : Oper), ops[i]? = some o → ∀ t ∈ o.looksAt ops, t < 3000) {M : Nat → Bool} {k : Nat} {e : Ex} {fr' : Fr} {h' : Hp} {Q : Exit → Act → World → Prop}
 (hP : e = .exit k → PanQ R D0 lim B w0 nt g0 os0 fr' h' Q)
 (hQ : e = .normal → ∀ g' a' w', Stands D0 lim B w0 nt F g0 os0 g' h'.objs fr' a' w' → h'.lim = lim → Q .normal a' w') : ∀ (fuel : Nat) (listed : Array Bool) (a : Act) (w : World) (done r : List Nat) (ss : List Step) (ids : Nat → Option Nat) (g : Gh) (os : List Obj) (fr : Fr),
 (leftOf ops listed).length ≤ fuel → Amid D0 P B w0 nt F g0 os0 lim ops b rl done listed ids g os fr a w → drawGo P nt ops b rl done r = some ss → exec C (mayDC M k .skip ss) (fr, ⟨os, lim⟩) = some (e, fr', h') → (r = [] ∨ ∃ i r'', r = i :: r'' ∧ isEffect P ops rl i = true) →
 wpAnyIn F 0 P .any ops Q fuel listed a w := by
 have stop : ∀ (listed : Array Bool) (a : Act) (w : World) (done r : List Nat) (ss : List Step) (ids : Nat → Option Nat) (g : Gh) (os : List Obj) (fr : Fr), Amid D0 P B w0 nt F g0 os0 lim ops b rl done listed ids g os fr a w → drawGo P nt ops b rl done r = some ss → exec C (mayDC M k .skip ss) (fr, ⟨os, lim⟩) = some (e, fr', h') → Region.ready .any ops listed = [] → Q .normal a w := by
  intro listed a w done r ss ids g os fr H hd hr hready
  have all : ∀ i, i < ops.size → listed.getD i false = true := by
   intro i
   induction i using Nat.strongRecOn with
   | _ i ih =>
    intro hi
    rcases getD_cases (listed := listed) (i := i) (by rw [H.lsize]; exact hi) with q | q
    · exact q
    · have : i ∈ Region.ready .any ops listed := by
       rw [mem_ready]
       refine ⟨q, ops[i], Array.getElem?_eq_getElem hi, fun e he hb => ?_⟩
       have hlt := hM.back i ops[i] (Array.getElem?_eq_getElem hi) e he hb
       exact ih e.on hlt (by omega)
      rw [hready] at this
      cases this
  have hrn : r = [] := by
   cases r with
   | nil => rfl
   | cons i r =>
    obtain ⟨o, s, cs, l, ho, hs, hp, _⟩ := drawGo_cons hd
    exact absurd (H.sub i (all i (Array.getElem?_eq_some_iff.1 ho).1)) (place_spec hp.1).1
  subst hrn
  have hss : ss = [] := by
   simp only [drawGo] at hd
   split at hd
   · cases hd; rfl
   · cases hd
  subst hss
  simp only [mayDC, exec, Option.some.injEq, Prod.mk.injEq] at hr
  obtain ⟨rfl, rfl, rfl⟩ := hr
  refine hQ rfl g a w ⟨H.inv, H.ext, H.kept, fun t _ => H.frs t fun k hk hu ok hok => ?_, H.size, H.side.1, H.side.2⟩ rfl
  have := all k (Array.getElem?_eq_some_iff.1 hok).1
  rw [getD_true_of_false this] at hu
  cases hu
 intro fuel
 induction fuel with
 | zero =>
  intro listed a w done r ss ids g os fr hf H hd hr hh
  have hready : Region.ready .any ops listed = [] := by
   rw [List.eq_nil_iff_forall_not_mem]
   intro i hi
   obtain ⟨hu, o, ho, _⟩ := mem_ready.1 hi
   have : i ∈ leftOf ops listed := List.mem_filter.2 ⟨by simpa using (Array.getElem?_eq_some_iff.1 ho).1, by simp [hu]⟩
   have hz : leftOf ops listed = [] := by simpa using hf
   rw [hz] at this
   cases this
  exact ⟨hready, stop listed a w done r ss ids g os fr H hd hr hready⟩
 | succ fuel ih =>
  intro listed a w done r ss ids g os fr hf H hd hr hh
  refine ⟨stop listed a w done r ss ids g os fr H hd hr, fun i hi => ?_⟩
  obtain ⟨hu, o, ho, hall⟩ := mem_ready.1 hi
  have hlt := (Array.getElem?_eq_some_iff.1 ho).1
  have hless := leftOf_less H.lsize hu
  by_cases hid : i ∈ done
  · exact H.late hM hid hi hF fun g' a' w' H' => ih _ a' w' done r ss ids g' os fr (by omega) H' hd hr hh
  · have hir : i ∈ r := (drawGo_all hd i hlt).resolve_left hid
    rcases hh with rfl | ⟨kk, r'', rfl, hek⟩
    · cases hir
    obtain ⟨ok, s, cs, l, hok, hs, hp, hcs, hl, rfl⟩ := drawGo_cons hd
    rcases List.mem_cons.1 hir with rfl | hir
    · have hk2 : s.op.kind = 2 ∨ s.op.kind = 0 := by
       rw [isEffect_of hok hs, Bool.or_eq_true] at hek
       rcases hek with q | q
       · exact .inl (by simpa using q)
       · have h1 : s.op.kind ≠ 1 := fun e => by rw [hp.2 e] at q; cases q
         have : s.op.kind = 0 ∨ s.op.kind = 1 ∨ s.op.kind = 2 := by cases s.op <;> simp [DOp.kind]
         rcases this with q | q | q
         · exact .inr q
         · exact absurd q h1
         · exact .inl q
      obtain ⟨c1, c2, c3, c4, c5⟩ := compStep_ok hs
      rcases mayDC_cons (fun d hd => Nat.lt_of_lt_of_le (c4 d (by rw [← c1]; exact hd)) hnt) hr with ⟨_, fr1, h1, hstep, hx⟩ | ⟨hgd, x, args, vs, h1, y, hm, hact, hst, hy, hx⟩
      · refine H.effect hC hM hok hs hp.1 hk2 hcs hi hF hstep fun g' a' w' hl1 H' => ?_
        obtain ⟨os1, lim1⟩ := h1
        simp only at hl1
        subst hl1
        obtain ⟨done2, r2, ss2, ids2, g2, os2, fr2, H2, hd2, hr2, hh2⟩ := Amid.advanceM hM hnt r'' (i :: done) l ids g' os1 fr1 H' hl hx
        exact ih _ a' w' done2 r2 ss2 ids2 g2 os2 fr2 (by omega) H2 hd2 hr2 hh2
      · have hk3 : s.op.kind = 2 := by
         simp only at hm
         cases hop : s.op <;> rw [hop] at hm <;> first | rfl | (simp [mayOf] at hm; done)
        refine H.effectM hC hM hok hs hp.1 hk3 hcs hi hF hgd hm hact hst (fun z g' a' w' hz hl1 H' => ?_) (fun z u g' w' hz hl1 hI hE hK hRv => ?_)
        · subst hz
          simp at hy hx
          subst hy
          obtain ⟨fr1, hf, hx⟩ := hx
          obtain ⟨os1, lim1⟩ := h1
          simp only at hl1
          subst hl1
          rw [c1] at hf
          obtain ⟨done2, r2, ss2, ids2, g2, os2, fr2, H2, hd2, hr2, hh2⟩ := Amid.advanceM hM hnt r'' (i :: done) l ids g' os1 fr1 (H'.feq hf hnt hlk) hl hx
          exact ih _ a' w' done2 r2 ss2 ids2 g2 os2 fr2 (by omega) H2 hd2 hr2 hh2
        · subst hz
          simp at hy hx
          subst hy
          obtain ⟨e1, e2, e3, e4⟩ := hx
          subst e2
          refine hP e1 g' a w' u ⟨hI, H.ext.trans hE, H.kept.trans H.ext hK, fun t ht => ?_, H.size, H.side.1.mono hK.df⟩ (by rw [e3]; exact hRv) hl1
          have h1' := e4.low (hR t ht)
          have h2 : fr'.get t = fr.get t := by
           rw [← h1']
           have := hR t ht
           simp only [Fr.get]
           rw [if_neg (by omega)]
          rw [h2]
          exact RV.mono hE _ _ (H.frs t fun q _ _ o ho => hRd q o ho t ht)
    · have ht := drawGo_behind hl kk (by simp) hek i hir
      have := H.before hM ho hall (Array.getElem?_eq_some_iff.1 hok).1 ht
      exact absurd (H.sub kk this) (place_spec hp.1).1
end Dk
namespace Dk
open Go Go.RowKit
variable [Globs] [SiteRel] {D0 : List Deferred × Bool} {P : Program} {B : Nat} {w0 w : World} {g : Gh} {os : List Obj}
def panOp (l : List Oper) : Option (List Oper × Operand) := match l.reverse with
 | o :: r => match o.op, o.guard with
  | .panic x, none => some (r.reverse, x)
  | _, _ => none
 | [] => none
def X.low : X → Bool
 | .t n => Nat.blt n 3000
 | .v _ => true
def panDC (k ty : Nat) (x : X) : DC :=
 .seq (.ops [⟨some 3000, .asr ty .nili x, none, []⟩, ⟨some 3001, .ext (.t 3000) 1, none, []⟩])
  (.cond (.t 3001) (.seq (.ops [⟨some 3002, .mv x, none, []⟩, cl 3000, cl 3001]) (.exit k)) (.ops stuckL))
def regOk (R : List Nat) (ops : Array Oper) : Bool := ops.toList.all fun o => ((o.looksAt ops).all fun t => Nat.blt t 3000) && R.all fun t => o.dst != some t
def mayReg (M : Nat → Bool) (k : Nat) (ss : List Step) : DC := if ss.all (fun s => (mayOf M s.op).isNone) then .ops ss else mayDC M k .skip ss
def mayCode (P : Program) (nt : Nat) (plan : Nat → Option (List Nat)) (M : Nat → Bool) (k ty : Nat) (R : List Nat) : Code → List (List Nat) → Option (DC × List (List Nat))
 | .skip, ks => some (.skip, ks)
 | .label _, ks => some (.skip, ks)
 | .region id ops draw, ks => match (if draw then drawOf P nt plan id ops else compList P nt ops ops.toList) with
  | some ss => if !draw || regOk R ops then some (mayReg M k ss, ks) else none
  | none => if draw then none else match panOp ops.toList with
   | some (pre, x) => match compList P nt ops pre, opX x with
    | some ss, some X => if X.low then some (mayDC M k (panDC k ty X) ss, ks) else none
    | _, _ => none
   | none => none
 | .seq a b, ks => match mayCode P nt plan M k ty R a ks with
  | some (a', ks') => match mayCode P nt plan M k ty R b ks' with
   | some (b', ks'') => some (.seq a' b', ks'')
   | none => none
  | none => none
 | .cond c a b, ks => match opX c, mayCode P nt plan M k ty R a ks with
  | some x, some (a', ks') => match mayCode P nt plan M k ty R b ks' with
   | some (b', ks'') => some (.cond x a' b', ks'')
   | none => none
  | _, _ => none
 | .block id c, ks => if Nat.beq id k then none else match mayCode P nt plan M k ty R c ks with
  | some (c', ks') => some (.block id c', ks')
  | none => none
 | .loop c, ks => match ks with
  | keep :: ks => match mayCode P nt plan M k ty R c ks with
   | some (c', ks') => some (.loop keep c', ks')
   | none => none
  | [] => none
 | .scope c, ks => mayCode P nt plan M k ty R c ks
 | .exit id, ks => if Nat.beq id k then none else some (.exit id, ks)
 | .ret, ks => some (.ret, ks)
 | _, _ => none
theorem panOp_ok {l pre : List Oper} {x : Operand} (h : panOp l = some (pre, x)) : ∃ o, l = pre ++ [o] ∧ o.op = .panic x ∧ o.guard = none := by
 unfold panOp at h
 split at h
 · rename_i o r hr
   split at h
   · rename_i x' h1 h2
     cases h
     refine ⟨o, ?_, h1, h2⟩
     have := congrArg List.reverse hr
     simpa using this
   · cases h
 · cases h
theorem panDC_ok {C : CallFn} {k ty : Nat} {x : X} (hx : x.low = true) {fr fr' : Fr} {h h' : Hp} {e : Ex} (he : exec C (panDC k ty x) (fr, h) = some (e, fr', h')) : ∃ v, x.ev fr = .iface ty v ∧ Panics k fr (.iface ty v) h e fr' h' := by
 obtain ⟨f1, h1, e1, e2⟩ := exec_ops_nil (b := _) he
 obtain ⟨f2, h2, e3, e4⟩ := runSteps_cons e1
 obtain ⟨f3, h3, e5, e6⟩ := runSteps_cons e4
 simp only [runSteps, Option.some.injEq, Prod.mk.injEq] at e6
 obtain ⟨rfl, rfl⟩ := e6
 obtain ⟨rv, q1, _, rfl⟩ := runStep_plain e3
 obtain ⟨vs, b, q3, q4, rfl, rfl⟩ := run_ext e5
 rw [get_put, if_pos rfl] at q3
 subst q3
 simp only [runOp, DOp.kind, Option.map_eq_some_iff] at q1
 obtain ⟨u, q1, q2⟩ := q1
 cases q2
 simp only [exec, X.ev] at e2
 rw [get_put, if_pos rfl] at e2
 split at e2
 · rename_i t
   cases t with
   | false => simp only [Bool.false_eq_true, if_false] at e2; exact (stuck_none (C := C) (s := (((fr.put (some 3000) (.tup vs)).put (some 3001) (.p (.bool false))), h)) (o := (e, fr', h')) (by simpa only [exec] using e2)).elim
   | true =>
    have hiv : ∃ v, x.ev fr = .iface ty v := by
     simp only [look] at q1
     split at q1
     · cases q1; simp at q4
     · rename_i u' v' hx'
       split at q1
       · rename_i ht; exact ⟨v', by rw [hx', ht]⟩
       · cases q1; simp at q4
     · cases q1
    obtain ⟨v, hv⟩ := hiv
    refine ⟨v, hv, ?_⟩
    simp only [if_true] at e2
    obtain ⟨f4, h4, e7, e8⟩ := exec_ops_nil (b := .exit k) (by simpa only [exec] using e2)
    obtain ⟨f5, h5, e9, e10⟩ := runSteps_cons e7
    obtain ⟨y, p1, _, rfl⟩ := runStep_plain e9
    simp only [runOp, DOp.kind, look, Option.map_some, Option.some.injEq, Prod.mk.injEq] at p1
    obtain ⟨rfl, rfl⟩ := p1
    obtain ⟨rfl, rfl⟩ := run_cl e10
    simp only [exec, Option.some.injEq, Prod.mk.injEq] at e8
    obtain ⟨rfl, rfl, rfl⟩ := e8
    have hxe : x.ev (Fr.put (Fr.put fr (some 3000) (.tup vs)) (some 3001) (.p (.bool true))) = x.ev fr := by
     cases x with
     | v _ => rfl
     | t n =>
      have hn : n < 3000 := by simpa [X.low] using hx
      simp only [X.ev, get_put]
      rw [if_neg (by omega), if_neg (by omega)]
    refine ⟨rfl, rfl, ?_, fun t => ?_⟩
    · rw [hxe, hv]; simp [Fr.get, Fr.put]
    · simp only [Fr.get, Fr.put]
      by_cases h0 : 3002 = t
      · subst h0; right; simp
      · by_cases h1 : 3001 = t
        · subst h1; right; simp
        · by_cases h2 : 3000 = t
          · subst h2; right; simp
          · left; simp [h0, h1, h2]
 · cases e2
theorem codeM_wp {C : CallFn} (hC : CallOK P C) (hm : P.follows .mixedOrders = true) {nt : Nat} (hnt : nt ≤ 3000) {plan : Nat → Option (List Nat)} {M : Nat → Bool} {k ty : Nat} {R : List Nat} (hR : ∀ t ∈ R, t < 3000) {F : Fence} (hF : Free F) {g0 : Gh} {os0 : List Obj} {lim : Nat} : ∀ (c : Code) (ks ks' : List (List Nat)) (d : DC), mayCode P nt plan M k ty R c ks = some (d, ks') →
 ∀ (g : Gh) (os : List Obj) (fr : Fr) (a : Act) (w : World), Stands D0 lim B w0 nt F g0 os0 g os fr a w → ∀ (e : Ex) (fr' : Fr) (h' : Hp), exec C d (fr, ⟨os, lim⟩) = some (e, fr', h') →
 ∀ (Q : Exit → Act → World → Prop), (e ≠ .exit k → ∀ g' a' w', Stands D0 lim B w0 nt F g0 os0 g' h'.objs fr' a' w' → h'.lim = lim → Q (exOf e) a' w') → (e = .exit k → PanQ R D0 lim B w0 nt g0 os0 fr' h' Q) → c.wpIn F 0 P Q a w := by
 intro c
 induction c with
 | skip =>
  intro ks ks' d hc g os fr a w hS e fr' h' hx Q hQ hP
  simp only [mayCode, Option.some.injEq, Prod.mk.injEq] at hc
  obtain ⟨rfl, rfl⟩ := hc
  simp [exec] at hx
  obtain ⟨rfl, rfl, rfl⟩ := hx
  exact wpIn_skip (hQ (by simp) g a w hS rfl)
 | label l =>
  intro ks ks' d hc g os fr a w hS e fr' h' hx Q hQ hP
  simp only [mayCode, Option.some.injEq, Prod.mk.injEq] at hc
  obtain ⟨rfl, rfl⟩ := hc
  simp [exec] at hx
  obtain ⟨rfl, rfl, rfl⟩ := hx
  exact wpIn_label (hQ (by simp) g a w hS rfl)
 | region id ops draw =>
  intro ks ks' d hc g os fr a w hS e fr' h' hx Q hQ hP
  simp only [mayCode] at hc
  have hrange : (List.range ops.size).map (ops[·]?) = ops.toList.map some := by
   apply List.ext_getElem?
   intro n
   simp only [List.getElem?_map]
   by_cases hn : n < ops.size
   · simp [hn]
   · simp [hn]
  split at hc
  · rename_i ss hss
    split at hc
    · rename_i hok
      simp only [Option.some.injEq, Prod.mk.injEq] at hc
      obtain ⟨rfl, rfl⟩ := hc
      unfold mayReg at hx
      split at hx
      · simp only [exec] at hx
        split at hx
        · rename_i fr1 h1 hr
          simp only [Option.some.injEq, Prod.mk.injEq] at hx
          obtain ⟨rfl, rfl, rfl⟩ := hx
          cases draw with
          | true => exact drawOf_ok hC hm nt plan id ops ss (by simpa using hss) D0 B w0 F hF g0 os0 g os fr a w lim _ _ Q hS hr (hQ (by simp))
          | false => exact wpIn_region (steps_wp hC hF (List.range ops.size) ops.toList ss hrange (by simpa using hss) g os fr a w hS _ _ hr (hQ (by simp)))
        · cases hx
      · cases draw with
        | false =>
         refine wpIn_region ?_
         have := stepsM_wp (l2 := []) (Q := Q) hC hnt hF hR hP (List.range ops.size) ops.toList ss hrange (by simpa using hss) g os fr a w hS hx fun g1 os1 fr1 a1 w1 hS1 hx1 => by
          simp only [exec, Option.some.injEq, Prod.mk.injEq] at hx1
          obtain ⟨rfl, rfl, rfl⟩ := hx1
          exact hQ (by simp) g1 a1 w1 hS1 rfl
         simpa using this
        | true =>
         simp only [if_true] at hss
         simp only [Bool.not_true, Bool.false_or] at hok
         unfold drawOf at hss
         split at hss
         · rename_i r _
           simp only at hss
           split at hss
           · rename_i hmk
             have hM := masks_of hmk
             have hS1 := hS.drawn (w.drawn + 1)
             have H : Amid D0 P B w0 nt F g0 os0 lim ops (fun i => (Region.before ops).getD i 0) (rewList ops (fun i => (Region.before ops).getD i 0)) [] (Array.replicate ops.size false) (fun _ => none) g os fr a { w with drawn := w.drawn + 1 } :=
              ⟨hS1.inv, hS1.ext, hS1.kept, fun t _ => hS1.fr t trivial, hS1.size, ⟨hS1.marks, hS1.rnd⟩, fun i hi => (by cases hi), fun i j id h => (by cases h), fun i id h => (by cases h), by simp, fun i hi => (by
               simp only [Array.getD_eq_getD_getElem?] at hi
               by_cases q : i < ops.size <;> simp [q] at hi), fun i hi => (by
               simp only [Array.getD_eq_getD_getElem?] at hi
               by_cases q : i < ops.size <;> simp [q] at hi), ⟨fun i hi => (by cases hi), fun i hi => (by cases hi)⟩⟩
             refine wpIn_region_any hm ?_
             have hall : ∀ (i : Nat) (o : Oper), ops[i]? = some o → ((o.looksAt ops).all fun t => Nat.blt t 3000) = true ∧ (R.all fun t => o.dst != some t) = true := fun i o ho => by
              have := List.all_eq_true.1 hok o (by rw [← Array.getElem?_toList] at ho; exact List.mem_of_getElem? ho)
              simpa [Bool.and_eq_true] using this
             obtain ⟨done2, r2, ss2, ids2, g2, os2, fr2, H2, hd2, hr2, hh2⟩ := Amid.advanceM hM hnt r [] ss _ g os fr H hss hx
             refine any_wpM hC hF hM hnt hR (fun i o ho t ht => ?_) (fun i o ho t ht => ?_) hP (fun e1 => hQ (by rw [e1]; simp) |> fun q => by subst e1; exact q) _ _ _ _ done2 r2 ss2 ids2 g2 os2 fr2 ?_ H2 hd2 hr2 hh2
             · have := List.all_eq_true.1 (hall i o ho).2 t ht
               simpa using this
             · have := List.all_eq_true.1 (hall i o ho).1 t ht
               simpa using this
             · have := List.length_filter_le (fun i => !(Array.replicate ops.size false).getD i true) (List.range ops.size)
               simpa [leftOf] using this
           · cases hss
         · cases hss
    · cases hc
  · split at hc
    · cases hc
    · rename_i hdr
      split at hc
      · rename_i pre x hpan
        split at hc
        · rename_i ss X hss hX
          split at hc
          · rename_i hlow
            simp only [Option.some.injEq, Prod.mk.injEq] at hc
            obtain ⟨rfl, rfl⟩ := hc
            have hdf : draw = false := by simpa using hdr
            subst hdf
            obtain ⟨o, e1, e2, e3⟩ := panOp_ok hpan
            have hsz : ops.size = pre.length + 1 := by
             have := congrArg List.length e1
             simpa using this
            obtain ⟨hm1, hm2⟩ := range_map e1 hsz
            refine wpIn_region ?_
            rw [hsz, List.range_succ]
            refine stepsM_wp hC hnt hF hR hP (List.range pre.length) pre ss hm1 hss g os fr a w hS hx fun g1 os1 fr1 a1 w1 hS1 hx1 => ?_
            obtain ⟨v, hv, p1, p2, p3, p4⟩ := panDC_ok hlow hx1
            subst p2
            have hrv := hS1.fr.ans hS1.inv.gl (x := x) (fun _ _ => trivial) X hX
            rw [hv] at hrv
            simp only [wpOpsIn, hm2]
            have hw : Region.wanted o (yielded ops a1.tmps) = true := by simp [Region.wanted, e3]
            rw [if_pos hw]
            refine ⟨fun f _ => hF.fn f, ?_⟩
            have hrun : (o.semAt F.round a1.eval).run P w1 = .halt (.panic (a1.eval x)) w1 := by
             rw [Oper.semAt_eq _ _ _ (fun c q => by rw [e2] at q; cases q)]
             have hrv' := hrv
             simp only [RV] at hrv'
             obtain ⟨u, hu, _⟩ := hrv'
             rw [hu]
             simp [execOp, e2, hu, Instr.panic, goPanic]
            rw [hrun, Oper.uponIn_panic]
            refine hP p1 g1 a1 w1 _ ⟨hS1.inv, hS1.ext, hS1.kept, fun t ht => ?_, hS1.size, hS1.marks⟩ (by rw [p3]; exact hrv) rfl
            have h1' := p4.low (hR t ht)
            have h2 : fr'.get t = fr1.get t := by
             rw [← h1']
             have := hR t ht
             simp only [Fr.get]
             rw [if_neg (by omega)]
            rw [h2]
            exact hS1.fr t trivial
          · cases hc
        · cases hc
      · cases hc
 | seq x y ihx ihy =>
  intro ks ks' d hc g os fr a w hS e fr' h' hx Q hQ hP
  simp only [mayCode] at hc
  split at hc
  · rename_i a' k1 ha
    split at hc
    · rename_i b' k2 hb
      simp only [Option.some.injEq, Prod.mk.injEq] at hc
      obtain ⟨rfl, rfl⟩ := hc
      simp only [exec] at hx
      refine wpIn_seq ?_
      split at hx
      · rename_i fr1 h1 he
        refine ihx _ _ _ ha g os fr a w hS _ _ _ he _ (fun _ g1 a1 w1 hS1 hl => ?_) (fun q => by cases q)
        obtain ⟨os1, lim1⟩ := h1
        subst hl
        exact ihy _ _ _ hb g1 os1 fr1 a1 w1 hS1 _ _ _ hx Q hQ hP
      · rename_i hne
        refine ihx _ _ _ ha g os fr a w hS _ _ _ hx _ (fun hk g1 a1 w1 hS1 hl => ?_) (fun hk => ?_)
        · cases e with
          | normal => exact absurd hx (hne _ _)
          | exit i => exact hQ hk g1 a1 w1 hS1 hl
          | ret => exact hQ hk g1 a1 w1 hS1 hl
        · intro g1 a1 w1 u h1 h2 h3
          exact hP hk g1 a1 w1 u h1 h2 h3
    · cases hc
  · cases hc
 | cond c x y ihx ihy =>
  intro ks ks' d hc g os fr a w hS e fr' h' hx Q hQ hP
  simp only [mayCode] at hc
  split at hc
  · rename_i X a' k1 hX ha
    split at hc
    · rename_i b' k2 hb
      simp only [Option.some.injEq, Prod.mk.injEq] at hc
      obtain ⟨rfl, rfl⟩ := hc
      simp only [exec] at hx
      split at hx
      · rename_i t ht
        have hv := hS.fr.ans hS.inv.gl (x := c) (fun _ _ => trivial) X hX
        rw [ht] at hv
        cases t with
        | true => exact wpIn_cond_true hv.bool (ihx _ _ _ ha g os fr a w hS _ _ _ (by simpa using hx) Q hQ hP)
        | false => exact wpIn_cond_false hv.bool (ihy _ _ _ hb g os fr a w hS _ _ _ (by simpa using hx) Q hQ hP)
      · cases hx
    · cases hc
  · cases hc
 | block id c ih =>
  intro ks ks' d hc g os fr a w hS e fr' h' hx Q hQ hP
  simp only [mayCode] at hc
  split at hc
  · cases hc
  · rename_i hidk
    have hidk : id ≠ k := fun q => hidk (beqt q)
    split at hc
    · rename_i c' k1 hcc
      simp only [Option.some.injEq, Prod.mk.injEq] at hc
      obtain ⟨rfl, rfl⟩ := hc
      simp only [exec] at hx
      refine wpIn_block ?_
      split at hx
      · rename_i i fr1 h1 he
        split at hx
        · rename_i hi
          simp only [Option.some.injEq, Prod.mk.injEq] at hx
          obtain ⟨rfl, rfl, rfl⟩ := hx
          refine ih _ _ _ hcc g os fr a w hS _ _ _ he _ (fun _ g1 a1 w1 hS1 hl => ?_) (fun q => ?_)
          · simp only [exOf, Exit.inBlock]
            rw [if_pos hi]
            exact hQ (by simp) g1 a1 w1 hS1 hl
          · cases q; exact (hidk hi.symm).elim
        · rename_i hi
          simp only [Option.some.injEq, Prod.mk.injEq] at hx
          obtain ⟨rfl, rfl, rfl⟩ := hx
          refine ih _ _ _ hcc g os fr a w hS _ _ _ he _ (fun hk g1 a1 w1 hS1 hl => ?_) (fun hk g1 a1 w1 u h1 h2 h3 => hP hk g1 a1 w1 u h1 h2 h3)
          simp only [exOf, Exit.inBlock]
          rw [if_neg hi]
          exact hQ hk g1 a1 w1 hS1 hl
      · rename_i hne
        refine ih _ _ _ hcc g os fr a w hS _ _ _ hx _ (fun hk g1 a1 w1 hS1 hl => ?_) (fun hk g1 a1 w1 u h1 h2 h3 => hP hk g1 a1 w1 u h1 h2 h3)
        cases e with
        | normal => exact hQ hk g1 a1 w1 hS1 hl
        | exit i => exact absurd hx (hne _ _ _)
        | ret => exact hQ hk g1 a1 w1 hS1 hl
    · cases hc
 | loop c ih =>
  intro ks ks' d hc g os fr a w hS e fr' h' hx Q hQ hP
  simp only [mayCode] at hc
  split at hc
  · rename_i keep k1
    split at hc
    · rename_i c' k2 hcc
      simp only [Option.some.injEq, Prod.mk.injEq] at hc
      obtain ⟨rfl, rfl⟩ := hc
      simp only [exec, rounds] at hx
      split at hx
      · rename_i hex
        obtain ⟨n, hn⟩ : ∃ n, roundsN (exec C c') keep n (fr, ⟨os, lim⟩) = some (e, fr', h') := ⟨_, hx⟩
        clear hx hex
        let RR : Nat → Act → World → Prop := fun n a w => ∃ g os fr, Stands D0 lim B w0 nt F g0 os0 g os fr a w ∧ roundsN (exec C c') keep n (fr, ⟨os, lim⟩) = some (e, fr', h')
        let μ : Act → World → Nat := fun a w => open Classical in if h : ∃ n, RR n a w then (least _ h).choose else 0
        have hμ : ∀ a w, (∃ n, RR n a w) → RR (μ a w) a w ∧ ∀ m, RR m a w → μ a w ≤ m := by
         intro a w h
         simp only [μ, dif_pos h]
         exact (least _ h).choose_spec
        refine wpIn_loop (fun a w => ∃ n, RR n a w) μ ⟨n, g, os, fr, hS, hn⟩ fun a w hI => ?_
        obtain ⟨⟨g1, os1, fr1, hS1, hr⟩, hmin⟩ := hμ a w hI
        cases hm : μ a w with
        | zero => rw [hm] at hr; simp [roundsN] at hr
        | succ m =>
         rw [hm] at hr
         simp only [roundsN] at hr
         have hS2 : Stands D0 lim B w0 nt F g0 os0 g1 os1 (keep.map fun k => (k, fr1.get k)) a w := ⟨hS1.inv, hS1.ext, hS1.kept, hS1.fr.mask keep, hS1.size, hS1.marks, hS1.rnd⟩
         split at hr
         · rename_i fr2 h2 he
           refine ih _ _ _ hcc g1 os1 _ a w hS2 _ _ _ he _ (fun _ g3 a3 w3 hS3 hl => ?_) (fun q => by cases q)
           obtain ⟨os3, lim3⟩ := h2
           subst hl
           have hR : RR m a3 w3 := ⟨g3, os3, fr2, hS3, hr⟩
           exact ⟨⟨m, hR⟩, by have := (hμ a3 w3 ⟨m, hR⟩).2 m hR; omega⟩
         · rename_i hne
           refine ih _ _ _ hcc g1 os1 _ a w hS2 _ _ _ hr _ (fun hk g3 a3 w3 hS3 hl => ?_) (fun hk g1 a1 w1 u h1 h2 h3 => hP hk g1 a1 w1 u h1 h2 h3)
           cases e with
           | normal => exact absurd hr (hne _ _)
           | exit i => exact hQ hk g3 a3 w3 hS3 hl
           | ret => exact hQ hk g3 a3 w3 hS3 hl
      · cases hx
    · cases hc
  · cases hc
 | scope c ih =>
  intro ks ks' d hc g os fr a w hS e fr' h' hx Q hQ hP
  simp only [mayCode] at hc
  refine wpIn_scope_straight (ih _ _ _ hc g os fr a w hS _ _ _ hx _ (fun hk g1 a1 w1 hS1 hl => ?_) (fun hk g1 a1 w1 u h1 h2 h3 => hP hk g1 a1 w1 u h1 h2 h3))
  have := hQ hk g1 a1 w1 hS1 hl
  cases e <;> exact this
 | exit id =>
  intro ks ks' d hc g os fr a w hS e fr' h' hx Q hQ hP
  simp only [mayCode] at hc
  split at hc
  · cases hc
  · rename_i hidk
    simp only [Option.some.injEq, Prod.mk.injEq] at hc
    obtain ⟨rfl, rfl⟩ := hc
    simp [exec] at hx
    obtain ⟨rfl, rfl, rfl⟩ := hx
    exact wpIn_exit (hQ (fun q => by cases q; exact hidk (beqt rfl)) g a w hS rfl)
 | ret =>
  intro ks ks' d hc g os fr a w hS e fr' h' hx Q hQ hP
  simp only [mayCode, Option.some.injEq, Prod.mk.injEq] at hc
  obtain ⟨rfl, rfl⟩ := hc
  simp [exec] at hx
  obtain ⟨rfl, rfl, rfl⟩ := hx
  exact wpIn_ret (hQ (by simp) g a w hS rfl)
 | _ =>
  intro ks ks' d hc
  simp only [mayCode] at hc
  cases hc
end Dk
namespace Dk
open Go Go.RowKit
variable [Globs] [SiteRel] {P : Program} {B : Nat} {w0 w : World} {g : Gh} {os : List Obj}
omit [Globs] [SiteRel] in
theorem exec_block {C : CallFn} {id : Nat} {c : DC} {s : St} {e : Ex} {fr : Fr} {h : Hp} (hx : exec C (.block id c) s = some (e, fr, h)) : (exec C c s = some (.exit id, fr, h) ∧ e = .normal) ∨ (exec C c s = some (e, fr, h) ∧ e ≠ .exit id) := by
 simp only [exec] at hx
 split at hx
 · rename_i i fr1 h1 he
   split at hx
   · rename_i hi
     cases hx
     exact .inl ⟨by rw [he, hi], rfl⟩
   · rename_i hi
     cases hx
     exact .inr ⟨he, fun q => by cases q; exact hi rfl⟩
 · rename_i hne
   exact .inr ⟨hx, fun q => hne id fr h (by rw [← q]; exact hx)⟩
omit [Globs] [SiteRel] in
theorem exec_seq {C : CallFn} {a b : DC} {s : St} {e : Ex} {fr : Fr} {h : Hp} (hx : exec C (.seq a b) s = some (e, fr, h)) : (∃ f1 h1, exec C a s = some (.normal, f1, h1) ∧ exec C b (f1, h1) = some (e, fr, h)) ∨ (exec C a s = some (e, fr, h) ∧ e ≠ .normal) := by
 simp only [exec] at hx
 split at hx
 · rename_i f1 h1 he
   exact .inl ⟨f1, h1, he, hx⟩
 · rename_i hne
   exact .inr ⟨hx, fun q => hne fr h (by rw [← q]; exact hx)⟩
omit [Globs] [SiteRel] in
theorem retOK_ne {C : CallFn} {k : Nat} : ∀ {d : DC} {s : St} {e : Ex} {fr : Fr} {h : Hp}, retOK k d = true → exec C d s = some (e, fr, h) → e ≠ .exit k := by
 intro d
 induction d with
 | skip => intro s e fr h _ hx; simp only [exec, Option.some.injEq, Prod.mk.injEq] at hx; rw [← hx.1]; simp
 | ops l =>
  intro s e fr h _ hx
  simp only [exec] at hx
  split at hx
  · simp only [Option.some.injEq, Prod.mk.injEq] at hx; rw [← hx.1]; simp
  · cases hx
 | seq a b iha ihb =>
  intro s e fr h ho hx
  simp only [retOK, Bool.and_eq_true] at ho
  rcases exec_seq hx with ⟨f1, h1, _, q⟩ | ⟨q, _⟩
  · exact ihb ho.2 q
  · exact iha ho.1 q
 | cond x a b iha ihb =>
  intro s e fr h ho hx
  simp only [retOK, Bool.and_eq_true] at ho
  simp only [exec] at hx
  split at hx
  · split at hx
    · exact iha ho.1 hx
    · exact ihb ho.2 hx
  · cases hx
 | block id c ih =>
  intro s e fr h ho hx
  simp only [retOK, Bool.and_eq_true] at ho
  rcases exec_block hx with ⟨_, rfl⟩ | ⟨q, _⟩
  · simp
  · exact ih ho.2 q
 | loop keep c ih =>
  intro s e fr h ho hx
  simp only [retOK] at ho
  simp only [exec, rounds] at hx
  split at hx
  · rename_i hex
    have key : ∀ (n : Nat) (s : St), roundsN (exec C c) keep n s = some (e, fr, h) → e ≠ .exit k := by
     intro n
     induction n with
     | zero => intro s q; simp [roundsN] at q
     | succ n ihn =>
      intro s q
      simp only [roundsN] at q
      split at q
      · exact ihn _ q
      · exact ih ho q
    exact key _ _ hx
  · cases hx
 | exit id =>
  intro s e fr h ho hx
  simp only [exec, Option.some.injEq, Prod.mk.injEq] at hx
  rw [← hx.1]
  intro q
  cases q
  simp [retOK] at ho
 | ret => intro s e fr h _ hx; simp only [exec, Option.some.injEq, Prod.mk.injEq] at hx; rw [← hx.1]; simp
 | range ps keep x a b => intro s e fr h ho hx; simp [retOK] at ho
def sign (n : Nat) (v : EV) : Step := ⟨some n, .mv (.v (.tup [])), none, [(n, .mv (.v v), none)]⟩
omit [Globs] [SiteRel] in
theorem sign_ok {C : CallFn} {n : Nat} {u : EV} {fr fr2 : Fr} {h h2 : Hp} (e : runSteps C [sign n u] fr h = some (fr2, h2)) : fr2 = (n, .tup []) :: fr ∧ h2 = h ∧ fr.get n = u := by
 obtain ⟨v, q1, q2, q3⟩ := runSteps_one rfl e
 simp [sign, runOp, DOp.kind, look, X.ev] at q1
 obtain ⟨rfl, rfl⟩ := q1
 refine ⟨q3, rfl, ?_⟩
 simp only [sign, still, look, Bool.and_true, Bool.false_or, X.ev] at q2
 exact (EV.eqb_eq _ _ q2).symm
def resStep : List Res → Option Step
 | [] => some ⟨some 3002, .mv (.v (.tup [])), none, []⟩
 | [.tmp t] => some ⟨some 3002, .mv (.t t), none, []⟩
 | [.cell t ag n] => some ⟨some 3002, .ld ag n (.t t), none, []⟩
 | _ => none
omit [Globs] [SiteRel] in
theorem resStep_ok {C : CallFn} {rs : List Res} {s : Step} (hs : resStep rs = some s) {fr fr1 : Fr} {h h1 : Hp} (e : runSteps C [s] fr h = some (fr1, h1)) : ∃ vs, resultsOf fr h rs = some vs ∧ h1 = h ∧ fr1 = fr.put (some 3002) (oneEV vs) := by
 unfold resStep at hs
 split at hs
 · cases hs
   obtain ⟨v, q1, _, q3⟩ := runSteps_one rfl e
   simp [runOp, DOp.kind, look, X.ev] at q1
   obtain ⟨rfl, rfl⟩ := q1
   exact ⟨[], rfl, rfl, q3⟩
 · rename_i t
   cases hs
   obtain ⟨v, q1, _, q3⟩ := runSteps_one rfl e
   simp [runOp, DOp.kind, look, X.ev] at q1
   obtain ⟨rfl, rfl⟩ := q1
   exact ⟨[fr.get t], rfl, rfl, q3⟩
 · rename_i t ag n
   cases hs
   obtain ⟨v, q1, _, q3⟩ := runSteps_one rfl e
   simp only [runOp, DOp.kind, look, X.ev, Option.map_eq_some_iff] at q1
   obtain ⟨u, q1, q2⟩ := q1
   cases q2
   refine ⟨[v], ?_, rfl, q3⟩
   simp only [resultsOf, resultOf, q1]
 · cases hs
def mayBody (np : Nat) (d : DC) (s : Step) : DC :=
 .seq (.ops [sign np pagm]) (.block 900002 (.seq (.block 900001 (.seq (.block 900000 (retTo 900000 d)) (.seq (.ops [s]) (.seq (.ops [⟨some 3001, .mv (.v (.p (.bool false))), none, []⟩]) (.exit 900002)))))
  (.ops [⟨some 3001, .mv (.v (.p (.bool true))), none, []⟩])))
def compMay (P : Program) (plan : Nat → Option (List Nat)) (M : Nat → Bool) (ty : Nat) (keeps : List (List Nat)) (fn : Func) : Option DFn :=
 match fn.body with
 | some c => match mayCode P fn.ntmps plan M 900001 ty [] c keeps, compRes P fn.results.toList with
  | some (d, []), some rs => match resStep rs with
   | some s => if fn.params.size + fn.nfree ≤ fn.ntmps ∧ fn.ntmps ≤ 3000 ∧ retOK 900000 d = true ∧ retOK 900002 d = true then
    some ⟨fn.params.size + fn.nfree + 1, mayBody (fn.params.size + fn.nfree) d s, [.tmp 3001, .tmp 3002], false, false, false⟩ else none
   | none => none
  | _, _ => none
 | none => none
omit [Globs] [SiteRel] in
theorem mayBody_ok {C : CallFn} {np : Nat} {d : DC} {s : Step} {rs : List Res} (hs : resStep rs = some s) (ho1 : retOK 900000 d = true) (ho2 : retOK 900002 d = true) {fr fr' : Fr} {h h' : Hp} {e : Ex} (hne : ∀ i, e ≠ .exit i) (hx : exec C (mayBody np d s) (fr, h) = some (e, fr', h')) :
 fr.get np = pagm ∧ ∃ e1 fr1, ((e1 = .exit 900001 ∧ exec C d ((np, .tup []) :: fr, h) = some (e1, fr1, h') ∧ fr'.get 3001 = .p (.bool true) ∧ fr'.get 3002 = fr1.get 3002) ∨
  ((e1 = .normal ∨ e1 = .ret) ∧ exec C d ((np, .tup []) :: fr, h) = some (e1, fr1, h') ∧ ∃ vs, resultsOf fr1 h' rs = some vs ∧ fr'.get 3001 = .p (.bool false) ∧ fr'.get 3002 = oneEV vs)) := by
 obtain ⟨fr2, h2, r1, hx0⟩ := exec_ops_nil hx
 clear hx
 obtain ⟨rfl, rfl, hsg⟩ := sign_ok r1
 refine ⟨hsg, ?_⟩
 have setv : ∀ {b : Bool} {f f1 : Fr} {h h1 : Hp}, runSteps C [⟨some 3001, .mv (.v (.p (.bool b))), none, []⟩] f h = some (f1, h1) → f1 = (3001, .p (.bool b)) :: f ∧ h1 = h := fun e => by
  obtain ⟨v, q1, _, q3⟩ := runSteps_one rfl e
  simp [runOp, DOp.kind, look, X.ev] at q1
  obtain ⟨rfl, rfl⟩ := q1
  exact ⟨q3, rfl⟩
 have ops1 : ∀ {l : List Step} {f f1 : Fr} {h h1 : Hp} {e : Ex}, exec C (.ops l) (f, h) = some (e, f1, h1) → e = .normal ∧ runSteps C l f h = some (f1, h1) := fun e => by
  simp only [exec] at e
  split at e
  · rename_i q; cases e; exact ⟨rfl, q⟩
  · cases e
 have exit1 : ∀ {i : Nat} {f f1 : Fr} {h h1 : Hp} {e : Ex}, exec C (.exit i) (f, h) = some (e, f1, h1) → e = .exit i ∧ f1 = f ∧ h1 = h := fun e => by
  simp only [exec, Option.some.injEq, Prod.mk.injEq] at e; exact ⟨e.1.symm, e.2.1.symm, e.2.2.symm⟩
 -- the part behind the code
 have tail : ∀ {f f1 : Fr} {h h1 : Hp} {e : Ex}, exec C (.seq (.ops [s]) (.seq (.ops [⟨some 3001, .mv (.v (.p (.bool false))), none, []⟩]) (.exit 900002))) (f, h) = some (e, f1, h1) → e = .exit 900002 ∧ h1 = h ∧ ∃ vs, resultsOf f h rs = some vs ∧ f1.get 3001 = .p (.bool false) ∧ f1.get 3002 = oneEV vs := fun q => by
  obtain ⟨f3, h3, q1, q⟩ := exec_ops_nil q
  obtain ⟨f4, h4, q2, q⟩ := exec_ops_nil q
  obtain ⟨rfl, rfl, rfl⟩ := exit1 q
  obtain ⟨rfl, rfl⟩ := setv q2
  obtain ⟨vs, p1, rfl, rfl⟩ := resStep_ok hs q1
  refine ⟨rfl, rfl, vs, p1, by simp [Fr.get], by simp [Fr.get, Fr.put]⟩
 -- the code itself
 have code : ∀ {f1 : Fr} {h1 : Hp} {e : Ex}, exec C (.block 900000 (retTo 900000 d)) ((np, .tup []) :: fr, h2) = some (e, f1, h1) → (e = .normal ∧ ∃ e1, (e1 = .normal ∨ e1 = .ret) ∧ exec C d ((np, .tup []) :: fr, h2) = some (e1, f1, h1)) ∨ (∃ i, e = .exit i ∧ i ≠ 900002 ∧ exec C d ((np, .tup []) :: fr, h2) = some (.exit i, f1, h1)) := fun q => by
  rcases exec_block q with ⟨qa, rfl⟩ | ⟨qa, hq⟩
  · obtain ⟨e1, p1, p2, p3⟩ := retTo_exec ho1 qa
    cases e1 with
    | normal => cases p2
    | ret => exact .inl ⟨rfl, .ret, .inr rfl, p1⟩
    | exit j => simp only [toEx, Ex.exit.injEq] at p2; exact (p3 (by rw [p2])).elim
  · obtain ⟨e1, p1, p2, p3⟩ := retTo_exec ho1 qa
    cases e1 with
    | normal => exact .inl ⟨p2, .normal, .inl rfl, p1⟩
    | ret => exact (hq p2).elim
    | exit j =>
     refine .inr ⟨j, p2, fun e => ?_, p1⟩
     subst e
     exact retOK_ne ho2 p1 rfl
 rcases exec_block hx0 with ⟨hx, rfl⟩ | ⟨hx, hx2⟩
 · rcases exec_seq hx with ⟨f1, h1, hx1, hx3⟩ | ⟨hx1, _⟩
   · obtain ⟨q, _⟩ := ops1 hx3
     cases q
   · rcases exec_block hx1 with ⟨_, q⟩ | ⟨hx3, _⟩
     · cases q
     · rcases exec_seq hx3 with ⟨f1, h1, p1, p2⟩ | ⟨p1, _⟩
       · rcases code p1 with ⟨_, e1, he1, q⟩ | ⟨i, q, _⟩
         · obtain ⟨_, rfl, vs, q1, q2, q3⟩ := tail p2
           exact ⟨e1, f1, .inr ⟨he1, q, vs, q1, q2, q3⟩⟩
         · cases q
       · rcases code p1 with ⟨q, _⟩ | ⟨i, q, hi, _⟩
         · cases q
         · cases q; exact (hi rfl).elim
 · rcases exec_seq hx with ⟨f1, h1, hx1, hx3⟩ | ⟨hx1, hn⟩
   · obtain ⟨rfl, q⟩ := ops1 hx3
     obtain ⟨rfl, rfl⟩ := setv q
     rcases exec_block hx1 with ⟨hx4, _⟩ | ⟨hx4, _⟩
     · rcases exec_seq hx4 with ⟨f3, h3, p1, p2⟩ | ⟨p1, _⟩
       · obtain ⟨q, _⟩ := tail p2
         cases q
       · rcases code p1 with ⟨q, _⟩ | ⟨i, q, hi, p2⟩
         · cases q
         · cases q
           exact ⟨_, f1, .inl ⟨rfl, p2, by simp [Fr.get], by simp [Fr.get]⟩⟩
     · rcases exec_seq hx4 with ⟨f3, h3, p1, p2⟩ | ⟨p1, q⟩
       · obtain ⟨q, _⟩ := tail p2
         cases q
       · exact (q rfl).elim
   · rcases exec_block hx1 with ⟨_, q⟩ | ⟨hx3, _⟩
     · exact (hn q).elim
     · rcases exec_seq hx3 with ⟨f1, h1, p1, p2⟩ | ⟨p1, _⟩
       · obtain ⟨q, _⟩ := tail p2
         exact (hne _ q).elim
       · rcases code p1 with ⟨q, _⟩ | ⟨i, q, _⟩
         · exact (hn q).elim
         · exact (hne _ q).elim
theorem start_ok {L : Nat} {nt : Nat} {args : List EV} {vs : List Value} {v : EV} (hI : Inv B w0 g os w) (hv : RVs g os args vs) (hnt : args.length ≤ nt) :
 Stands ([], true) L B w0 nt Fence.wide g os g os ((args.length, .tup []) :: args0 0 (args ++ [v])) { tmps := vs.toArray ++ Array.replicate (nt - vs.toArray.size) undef, defers := [] } w := by
 have hl2 := (RVs_get.1 hv).1
 refine ⟨hI, Ext.refl g os, Kept.refl L g os, fun t _ => ?_, by simp; omega, MarksD.nil ([], true) g g, fun l hl => by cases hl⟩
 simp only [Fr.get]
 split
 · rename_i ht
   have : Act.eval { tmps := vs.toArray ++ Array.replicate (nt - vs.toArray.size) undef, defers := [] } (.tmp t) = undef := by
    simp only [Act.eval, Array.getD_eq_getD_getElem?]
    rw [Array.getElem?_append_right (by simp; omega)]
    rw [Array.getElem?_replicate]
    split <;> rfl
   rw [this]
   exact RV.undef g os
 · rename_i ht
   rw [args0_get]
   simp only [Nat.zero_le, if_true, Nat.sub_zero]
   by_cases htl : t < args.length
   · rw [List.getElem?_append_left htl]
     have := args_fr (g := g) (os := os) hv (nt - vs.toArray.size) t trivial
     rw [args0_get] at this
     simpa only [Nat.zero_le, if_true, Nat.sub_zero] using this
   · rw [List.getElem?_eq_none (by simp; omega)]
     trivial
theorem goodMay (hm : P.follows .mixedOrders = true) {n : Nat} {d : DFn} {fn : Func} {plan : Nat → Option (List Nat)} {M : Nat → Bool} {ty : Nat} {keeps : List (List Nat)} (hf : P.funcs[n]? = some fn) (hn : (fn.name == "runtime.NumGoroutine") = false)
 (hc : compMay P plan M ty keeps fn = some d) : GoodFn P (mayNo + n) d := by
 unfold compMay at hc
 split at hc
 · rename_i c hb
   split at hc
   · rename_i dc rs hcode hres
     split at hc
     · rename_i s hs
       split at hc
       · rename_i hcond
         obtain ⟨k1, k2, k3, k4⟩ := hcond
         cases hc
         have start : ∀ {C : CallFn} {args : List EV} {os : List Obj} {lim : Nat} {r : EV} {h' : Hp}, body C ⟨fn.params.size + fn.nfree + 1, mayBody (fn.params.size + fn.nfree) dc s, [.tmp 3001, .tmp 3002], false, false, false⟩ args ⟨os, lim⟩ = some (r, h') →
          args.length = fn.params.size + fn.nfree + 1 ∧ (args0 0 args).get (fn.params.size + fn.nfree) = pagm ∧ ∃ e1 fr1 h1 v, h' = ⟨h1.objs, lim⟩ ∧ exec C dc ((fn.params.size + fn.nfree, .tup []) :: args0 0 args, ⟨os, lim⟩) = some (e1, fr1, h1) ∧
           ((e1 = .exit 900001 ∧ v = fr1.get 3002 ∧ r = .tup [.p (.bool true), v]) ∨ ((e1 = .normal ∨ e1 = .ret) ∧ ∃ vs, resultsOf fr1 h1 rs = some vs ∧ v = oneEV vs ∧ r = .tup [.p (.bool false), v])) := by
          intro C args os lim r h' h
          obtain ⟨hlen, e, fr1, h1, rvs, rvs2, os2, hex, hne, hrv, hsh, rfl, rfl⟩ := body_split rfl rfl h
          simp only [Bool.false_eq_true, if_false, Option.some.injEq, Prod.mk.injEq] at hsh
          obtain ⟨rfl, rfl⟩ := hsh
          simp only [resultsOf, resultOf, Option.some.injEq] at hrv
          subst hrv
          obtain ⟨q1, e1, f1, q2⟩ := mayBody_ok hs k3 k4 hne hex
          rcases q2 with ⟨rfl, p1, p2, p3⟩ | ⟨p0, p1, vs, p2, p3, p4⟩
          · exact ⟨hlen, q1, _, f1, h1, _, rfl, p1, .inl ⟨rfl, rfl, by simp only [oneEV, p2, p3]⟩⟩
          · exact ⟨hlen, q1, e1, f1, h1, _, rfl, p1, .inr ⟨p0, vs, p2, rfl, by simp only [oneEV, p3, p4]⟩⟩
         refine ⟨fun C _ _ B w0 w g os lim args vs r h' hI hv h => ?_, fun C _ _ B w0 w g os lim m args vs r h' _ hI hv h => ?_, fun C hC _ B w0 w g os lim m args vs r h' hmm hI hv h => ?_, fun C _ _ B w0 w g os lim m args vs x u r h' _ hI hv hx h => ?_⟩
         · obtain ⟨q1, q2, _⟩ := start h
           rw [args0_get] at q2
           simp only [Nat.zero_le, if_true, Nat.sub_zero] at q2
           have hi : fn.params.size + fn.nfree < args.length := by omega
           rw [List.getElem?_eq_getElem hi, Option.getD_some] at q2
           obtain ⟨v, _, hr⟩ := (RVs_get.1 hv).2 _ _ (List.getElem?_eq_getElem hi)
           rw [q2] at hr
           exact hr.elim
         · obtain ⟨q1, q2, _⟩ := start h
           have : args.length = fn.params.size + fn.nfree := by simpa using q1
           rw [args0_get, ← this] at q2
           simp [pagg, pagm] at q2
         · have hmn : m = n := by omega
           subst hmn
           obtain ⟨q1, q2, e1, fr1, h1, v, rfl, hx, hres1⟩ := start h
           refine ⟨?_, ?_⟩
           · rfl
           have hlen : args.length = fn.params.size + fn.nfree := by simpa using q1
           have hS := start_ok (L := lim) (nt := fn.ntmps) (v := pagm) hI hv (by omega)
           rw [hlen] at hS
           have hl2 := (RVs_get.1 hv).1
           have key : Calls P m vs.toArray w (MayW lim B w0 g os h1.objs r) := by
            refine callsIn_wide.1 (callsIn_of_wp_marks (F := Fence.wide) (n := 0) hf hb trivial ?_)
            refine codeM_wp hC hm k2 (fun t ht => by cases ht) (.inl rfl) c keeps [] dc hcode g os _ _ w hS e1 fr1 h1 hx _ (fun hk g1 a1 w1 hS1 hl => ?_) (fun hk g1 a1 w1 u hS1 hu hl => ?_)
            · rcases hres1 with ⟨q, _⟩ | ⟨q, us, p1, p2, p3⟩
              · exact (hk q).elim
              obtain ⟨ms, m0, _, m3⟩ := hS1.marks
              have hnil : a1.defers = [] := by rw [m0, m3 rfl]; rfl
              obtain ⟨ws, hru, hrs⟩ := results_ok (P := P) hS1.inv hS1.fr hres p1
              have fin : LeavesInM Fence.wide 0 P fn a1.tmps (MayW lim B w0 g os h1.objs r) a1.defers .returning w1 := by
               rw [hnil]
               refine ⟨_, hru, v, p3, g1, hS1.inv, hS1.ext, hS1.kept, ?_⟩
               rw [p2]
               exact one_ok hrs
              rcases q with rfl | rfl <;> exact fin
            · rcases hres1 with ⟨_, p2, p3⟩ | ⟨q, _⟩
              · obtain ⟨ms, m0, _, m3⟩ := hS1.marks
                have hnil : a1.defers = [] := by rw [m0, m3 rfl]; rfl
                show LeavesInM Fence.wide 0 P fn a1.tmps _ a1.defers (.panicking _) w1
                rw [hnil]
                exact ⟨v, u, p3, rfl, g1, hS1.inv, hS1.ext, hS1.kept, by rw [p2]; exact hu⟩
              · rcases q with rfl | rfl <;> cases hk
           unfold EntersM
           have hrun : (callFunc m vs.toArray).run P w = .ok (.enter m vs.toArray) w := by
            have hn' : fn.name ≠ "runtime.NumGoroutine" := by simpa using hn
            simp [callFunc, hf, hn', hb]
           rw [hrun]
           exact key
         · obtain ⟨q1, q2, _⟩ := start h
           have : args.length + 1 = fn.params.size + fn.nfree := by simpa using q1
           rw [args0_get, ← this] at q2
           simp [pagm, pagp] at q2
       · cases hc
     · cases hc
   · cases hc
 · cases hc
end Dk
namespace Dk
open Go Go.RowKit
variable [Globs] [SiteRel] {P : Program} {B : Nat} {w0 w : World} {g : Gh} {os : List Obj}
def panStep (s : CSpec) : Step := ⟨none, .call (panNo + s.f) (s.A ++ s.B ++ [.t 3002, .v pagp]), none, []⟩
def catchDC (s : CSpec) (y : DC) : DC := .block 900002 (.seq (.block 900001 (.seq (.block 900000 (retTo 900000 y)) (.seq (.ops [endStep s]) (.exit 900002)))) (.ops [panStep s]))
omit [Globs] [SiteRel] in
theorem catchDC_ok {C : CallFn} {s : CSpec} {d : DC} (ho1 : retOK 900000 d = true) (ho2 : retOK 900002 d = true) {fr fr' : Fr} {h h' : Hp} {e : Ex} (hne : ∀ i, e ≠ .exit i) (hx : exec C (catchDC s d) (fr, h) = some (e, fr', h')) :
 e = .normal ∧ ∃ e1 fr1 h1, exec C d (fr, h) = some (e1, fr1, h1) ∧ ((e1 = .exit 900001 ∧ runSteps C [panStep s] fr1 h1 = some (fr', h')) ∨ ((e1 = .normal ∨ e1 = .ret) ∧ runSteps C [endStep s] fr1 h1 = some (fr', h'))) := by
 have ops1 : ∀ {l : List Step} {f f1 : Fr} {h h1 : Hp} {e : Ex}, exec C (.ops l) (f, h) = some (e, f1, h1) → e = .normal ∧ runSteps C l f h = some (f1, h1) := fun e => by
  simp only [exec] at e
  split at e
  · rename_i q; cases e; exact ⟨rfl, q⟩
  · cases e
 have exit1 : ∀ {i : Nat} {f f1 : Fr} {h h1 : Hp} {e : Ex}, exec C (.exit i) (f, h) = some (e, f1, h1) → e = .exit i ∧ f1 = f ∧ h1 = h := fun e => by
  simp only [exec, Option.some.injEq, Prod.mk.injEq] at e; exact ⟨e.1.symm, e.2.1.symm, e.2.2.symm⟩
 have tail : ∀ {f f1 : Fr} {h h1 : Hp} {e : Ex}, exec C (.seq (.ops [endStep s]) (.exit 900002)) (f, h) = some (e, f1, h1) → e = .exit 900002 ∧ runSteps C [endStep s] f h = some (f1, h1) := fun q => by
  obtain ⟨f3, h3, q1, q⟩ := exec_ops_nil q
  obtain ⟨rfl, rfl, rfl⟩ := exit1 q
  exact ⟨rfl, q1⟩
 have code : ∀ {f1 : Fr} {h1 : Hp} {e : Ex}, exec C (.block 900000 (retTo 900000 d)) (fr, h) = some (e, f1, h1) → (e = .normal ∧ ∃ e1, (e1 = .normal ∨ e1 = .ret) ∧ exec C d (fr, h) = some (e1, f1, h1)) ∨ (∃ i, e = .exit i ∧ i ≠ 900002 ∧ exec C d (fr, h) = some (.exit i, f1, h1)) := fun q => by
  rcases exec_block q with ⟨qa, rfl⟩ | ⟨qa, hq⟩
  · obtain ⟨e1, p1, p2, p3⟩ := retTo_exec ho1 qa
    cases e1 with
    | normal => cases p2
    | ret => exact .inl ⟨rfl, .ret, .inr rfl, p1⟩
    | exit j => simp only [toEx, Ex.exit.injEq] at p2; exact (p3 (by rw [p2])).elim
  · obtain ⟨e1, p1, p2, p3⟩ := retTo_exec ho1 qa
    cases e1 with
    | normal => exact .inl ⟨p2, .normal, .inl rfl, p1⟩
    | ret => exact (hq p2).elim
    | exit j =>
     refine .inr ⟨j, p2, fun e => ?_, p1⟩
     subst e
     exact retOK_ne ho2 p1 rfl
 unfold catchDC at hx
 have hx0 := hx
 clear hx
 rcases exec_block hx0 with ⟨hx, rfl⟩ | ⟨hx, hx2⟩
 · refine ⟨rfl, ?_⟩
   rcases exec_seq hx with ⟨f1, h1, hx1, hx3⟩ | ⟨hx1, _⟩
   · obtain ⟨q, _⟩ := ops1 hx3
     cases q
   · rcases exec_block hx1 with ⟨_, q⟩ | ⟨hx3, _⟩
     · cases q
     · rcases exec_seq hx3 with ⟨f1, h1, p1, p2⟩ | ⟨p1, _⟩
       · rcases code p1 with ⟨_, e1, he1, q⟩ | ⟨i, q, _⟩
         · obtain ⟨_, q1⟩ := tail p2
           exact ⟨e1, f1, h1, q, .inr ⟨he1, q1⟩⟩
         · cases q
       · rcases code p1 with ⟨q, _⟩ | ⟨i, q, hi, _⟩
         · cases q
         · cases q; exact (hi rfl).elim
 · rcases exec_seq hx with ⟨f1, h1, hx1, hx3⟩ | ⟨hx1, hn⟩
   · obtain ⟨rfl, q⟩ := ops1 hx3
     refine ⟨rfl, ?_⟩
     rcases exec_block hx1 with ⟨hx4, _⟩ | ⟨hx4, _⟩
     · rcases exec_seq hx4 with ⟨f3, h3, p1, p2⟩ | ⟨p1, _⟩
       · obtain ⟨q, _⟩ := tail p2
         cases q
       · rcases code p1 with ⟨q, _⟩ | ⟨i, q1, hi, p2⟩
         · cases q
         · cases q1
           exact ⟨_, f1, h1, p2, .inl ⟨rfl, q⟩⟩
     · rcases exec_seq hx4 with ⟨f3, h3, p1, p2⟩ | ⟨p1, q⟩
       · obtain ⟨q, _⟩ := tail p2
         cases q
       · exact (q rfl).elim
   · rcases exec_block hx1 with ⟨_, q⟩ | ⟨hx3, _⟩
     · exact (hn q).elim
     · rcases exec_seq hx3 with ⟨f1, h1, p1, p2⟩ | ⟨p1, _⟩
       · obtain ⟨q, _⟩ := tail p2
         exact (hne _ q).elim
       · rcases code p1 with ⟨q, _⟩ | ⟨i, q, _⟩
         · exact (hn q).elim
         · exact (hne _ q).elim
def resAt : Res → Nat
 | .tmp t => t
 | .cell t _ _ => t
def compSpineM (P : Program) (nt : Nat) (dr : DrawFn) (plan : Nat → Option (List Nat)) (M : Nat → Bool) (ty : Nat) (R : List Nat) (s : CSpec) : Code → List (List Nat) → Option (DC × List (List Nat))
 | .seq x y, k => match deferOf x with
  | some (_, pre, t) => match compList P nt (opsOf x) pre, mayCode P nt plan M 900001 ty R y k with
   | some l, some (y', k') => if retOK 900000 y' = true ∧ retOK 900002 y' = true ∧ (s.A ++ s.B).all (xnowr y') = true then
    some (.seq (.ops l) (.seq (.ops [seeStep s t]) (catchDC s y')), k') else none
   | _, _ => none
  | none => match compCode P nt dr x k with
   | some (x', k') => match compSpineM P nt dr plan M ty R s y k' with
    | some (y', k'') => some (.seq x' y', k'')
    | none => none
   | none => none
 | _, _ => none
omit [Globs] [SiteRel] in
theorem mask_get {fr : Fr} {R : List Nat} {t : Nat} (ht : t ∈ R) : Fr.get (R.map fun k => (k, fr.get k)) t = fr.get t := by
 induction R with
 | nil => cases ht
 | cons k r ih =>
  simp only [List.map_cons, Fr.get]
  by_cases h : k = t
  · rw [if_pos h, h]
  · rw [if_neg h]
    rcases List.mem_cons.1 ht with q | q
    · exact (h q.symm).elim
    · exact ih q
omit [Globs] [SiteRel] in
theorem results_mask {fr : Fr} {R : List Nat} {h : Hp} : ∀ {res : List Res}, (∀ r ∈ res, resAt r ∈ R) → resultsOf (R.map fun k => (k, fr.get k)) h res = resultsOf fr h res
 | [], _ => rfl
 | r :: rs, hr => by
  have h1 : resultOf (R.map fun k => (k, fr.get k)) h r = resultOf fr h r := by
   have := hr r (by simp)
   cases r with
   | tmp t => simp only [resultOf, mask_get (show t ∈ R from this)]
   | cell t ag n => simp only [resultOf, mask_get (show t ∈ R from this)]
  simp only [resultsOf, h1, results_mask (res := rs) fun r' h' => hr r' (by simp [h'])]
theorem RVs_mask {fr : Fr} {R : List Nat} {a : Act} (h : ∀ t ∈ R, RV g os (fr.get t) (a.eval (.tmp t))) : FrOK g os (R.map fun k => (k, fr.get k)) a := fun t _ => by
 by_cases ht : t ∈ R
 · rw [mask_get ht]; exact h t ht
 · have : Fr.get (R.map fun k => (k, fr.get k)) t = .junk := by
    clear h
    induction R with
    | nil => rfl
    | cons k r ih =>
     simp only [List.map_cons, Fr.get]
     rw [if_neg (fun q => ht (by simp [q]))]
     exact ih fun q => ht (by simp [q])
   rw [this]
   trivial
theorem fin_catchP {C : CallFn} (hC : CallOK P C) {fn fg : Func} {nt L : Nat} {gd g1 : Gh} {osd os1 : List Obj} {w1 : World} {frd fr1 : Fr} {a1 : Act} {s : CSpec} {fa fb : Array Value} {bs0 : List Nat} {R : List Nat}
 (hS : PanS R ({ target := .fn (.func s.f) fb, args := fa } :: (bs0.map fun b => { target := .collected b, args := #[] }), true) L B w0 nt gd osd g1 os1 fr1 a1 w1) (E0 : Ext g os gd osd) (K0 : Kept L g os gd osd)
 (m2 : bs0.Nodup) (m3 : ∀ b ∈ bs0, gd.df b ∧ ¬ g.df b) (hA : RVs gd osd (evs frd s.A) fa.toList) (hB : RVs gd osd (evs frd s.B) fb.toList) (hkeep : ∀ x ∈ s.A ++ s.B, x.ev fr1 = x.ev frd ∨ x.ev fr1 = .junk)
 (hfg : P.funcs[s.f]? = some fg) (hbg : fg.body.isSome = true) (hng : (fg.name == "runtime.NumGoroutine") = false) (hlt : s.f < 1000000) {r : EV} {h2 : Hp} {u : Value} (hu : RV g1 os1 (fr1.get 3002) u) (hcall : C (panNo + s.f) (evs fr1 (s.A ++ s.B ++ [.t 3002, .v pagp])) ⟨os1, L⟩ = some (r, h2))
 {res : List Res} (hres : compRes P fn.results.toList = some res) (hrR : ∀ r ∈ res, resAt r ∈ R) {rvs rvs2 : List EV} (hrv : resultsOf fr1 h2 res = some rvs) {share : Bool} {os2 : List Obj} (hsh : (if share then shareVs h2.lim rvs h2.objs else some (rvs, h2.objs)) = some (rvs2, os2)) :
 LeavesInM Fence.wide 0 P fn a1.tmps (RetW L B w0 g os os2 (oneEV rvs2)) a1.defers (.panicking [{ v := u, recovered := false }]) w1 := by
 obtain ⟨ms, m0, _, mz⟩ := hS.marks
 rw [m0, mz rfl, List.nil_append]
 obtain ⟨body, hbody⟩ := Option.isSome_iff_exists.1 hbg
 have hrun : (callFunc s.f (fa ++ fb)).run P w1 = .ok (.enter s.f (fa ++ fb)) w1 := by
  have hn' : fg.name ≠ "runtime.NumGoroutine" := by simpa using hng
  simp [callFunc, hfg, hn', hbody]
 have hargs : RVs g1 os1 (evs fr1 (s.A ++ s.B)) (fa.toList ++ fb.toList) := by
  have hd := RVs_append hA hB
  have hd2 := RVs.mono hS.ext _ _ hd
  refine RVs_weak hd2 (by simp [evs]) fun i e he => ?_
  simp only [evs, List.getElem?_map, Option.map_eq_some_iff] at he
  obtain ⟨x, hx, rfl⟩ := he
  rcases hkeep x (List.mem_of_getElem? hx) with q | q
  · refine .inl ?_
    rw [q]
    have : evs frd s.A ++ evs frd s.B = evs frd (s.A ++ s.B) := by simp [evs]
    rw [this]
    simp only [evs, List.getElem?_map, hx, Option.map_some]
  · exact .inr q
 have e1 : evs fr1 (s.A ++ s.B ++ [.t 3002, .v pagp]) = evs fr1 (s.A ++ s.B) ++ [fr1.get 3002, pagp] := by simp [evs, X.ev]
 rw [e1] at hcall
 obtain ⟨k1, k2⟩ := hC.pans B w0 w1 g1 os1 L s.f _ _ _ u r h2 hlt hS.inv hargs hu hcall
 have e2 : (fa.toList ++ fb.toList).toArray = fa ++ fb := by simp
 rw [e2] at k2
 refine ⟨by simp, .inr ⟨fun q => (by cases q), .func s.f, fb, s.f, fa ++ fb, rfl, ?_, fun g' _ => trivial, CallsDIn.mono k2 fun e u' w3 hq => ?_⟩⟩
 · simpa [invoke] using hrun
 · obtain ⟨v, rfl, rfl, g2, p1, p2, p3, _⟩ := hq
   obtain ⟨os3, lim3⟩ := h2
   have E2 := (E0.trans hS.ext).trans p2
   have hfr : FrOK g2 os3 (R.map fun k => (k, fr1.get k)) a1 := RVs_mask fun t ht => RV.mono p2 _ _ (hS.fr t ht)
   exact fin_marks p1 E2 ((K0.trans E0 hS.kept).trans (E0.trans hS.ext) p3) hfr m2 (fun b hb => ⟨p3.df b (hS.kept.df b (m3 b hb).1), (m3 b hb).2⟩) hres (by rw [results_mask hrR]; exact hrv) hsh
set_option maxHeartbeats 1000000 in
theorem spineM_wp {C : CallFn} (hC : CallOK P C) (hm : P.follows .mixedOrders = true) {fn fg : Func} (hnt : fn.ntmps ≤ 3000) {dr : DrawFn} {plan : Nat → Option (List Nat)} {M : Nat → Bool} {ty : Nat} {R : List Nat} (hR : ∀ t ∈ R, t < 3000) (hD : DrawOK P C fn.ntmps dr) (hT : SiteOK P fn.ntmps dr) {s : CSpec} (hfg : P.funcs[s.f]? = some fg) (hbg : fg.body.isSome = true) (hng : (fg.name == "runtime.NumGoroutine") = false) (hlt : s.f < 1000000)
 {L : Nat} {res : List Res} (hres : compRes P fn.results.toList = some res) (hrR : ∀ r ∈ res, resAt r ∈ R) {share : Bool} {rvs rvs2 : List EV} {os2 : List Obj} : ∀ (c : Code) (k k' : List (List Nat)) (d : DC), compSpineM P fn.ntmps dr plan M ty R s c k = some (d, k') →
 ∀ (g1 : Gh) (os1 : List Obj) (fr : Fr) (a : Act) (w1 : World), Stands ([], false) L B w0 fn.ntmps Fence.wide g os g1 os1 fr a w1 → ∀ (e : Ex) (fr' : Fr) (h' : Hp), exec C d (fr, ⟨os1, L⟩) = some (e, fr', h') → (∀ i, e ≠ .exit i) →
 resultsOf fr' h' res = some rvs → (if share then shareVs h'.lim rvs h'.objs else some (rvs, h'.objs)) = some (rvs2, os2) →
 c.wpIn Fence.wide 0 P (bodyPostM Fence.wide 0 P fn (RetW L B w0 g os os2 (oneEV rvs2))) a w1 := by
 intro c
 induction c with
 | seq x y ihx ihy =>
  intro k k' d hc g1 os1 fr a w1 hS e fr' h' hx hne hrv hsh
  simp only [compSpineM] at hc
  refine wpIn_seq ?_
  split at hc
  · rename_i n pre t hdf
    split at hc
    · rename_i l y' k2 hl hy
      split at hc
      · rename_i hok
        obtain ⟨hok1, hok3, hok2⟩ := hok
        cases hc
        obtain ⟨id, ops, o, c, rfl, e1, e2, e3, e4, e5, e6, e7⟩ := deferOf_ok hdf
        obtain ⟨hm1, hm2⟩ := range_map e2 e1
        obtain ⟨fr2, h2, r1, hx1⟩ := exec_seq_ops hx
        clear hx
        obtain ⟨fr3, h3, r2, hx⟩ := exec_seq_ops hx1
        clear hx1
        obtain ⟨rfl, rfl, hclo⟩ := see_ok r2
        obtain ⟨rfl, ey, fr4, h4, p1, p2⟩ := catchDC_ok hok1 hok3 hne hx
        clear hx
        -- the region
        refine wpIn_region ?_
        rw [e1, List.range_succ]
        refine wpOps_append _ _ _ (steps_wp hC (.inl rfl) (List.range n) pre l hm1 hl g1 os1 fr a w1 hS _ _ r1 fun g2 a2 w2 hS2 hl2 => ?_)
        obtain ⟨osd, limd⟩ := h3
        simp only at hl2
        subst hl2
        have hcv := hS2.fr t trivial
        rw [hclo] at hcv
        simp only [RV] at hcv
        obtain ⟨fa, fb, hev, hA, hB⟩ := hcv
        show wpOpsIn Fence.wide 0 P ops _ [n] a2 w2
        simp only [wpOpsIn, hm2]
        have hw : Region.wanted o (yielded ops a2.tmps) = true := by simp [Region.wanted, e6]
        rw [if_pos hw]
        refine ⟨fun f _ => trivial, ?_⟩
        have hrun : (o.semAt Fence.wide.round a2.eval).run P w2 = .ok (.defer { target := .fn (.func s.f) fb, args := fa }) w2 := by
         show (o.semAt none a2.eval).run P w2 = _
         have hev' : a2.eval (.tmp t) = .func (.func s.f) fa fb := hev
         rw [Oper.semAt_none]
         simp [execOp, e3, resolve, e4, e5, hev', Deferred.ofValue]
        rw [hrun, Oper.uponIn_defer, e7]
        show y.wpIn Fence.wide 0 P _ { a2 with defers := { target := .fn (.func s.f) fb, args := fa } :: a2.defers } w2
        obtain ⟨ms, m0, ⟨bs, q1, q2, q3⟩, _⟩ := hS2.marks
        rw [m0, List.append_nil, q1]
        have hS3 : Stands ({ target := .fn (.func s.f) fb, args := fa } :: (bs.map fun b => { target := .collected b, args := #[] }), true) limd B w0 fn.ntmps Fence.wide g2 osd g2 osd fr3 { a2 with defers := { target := .fn (.func s.f) fb, args := fa } :: (bs.map fun b => { target := .collected b, args := #[] }) } w2 :=
         ⟨hS2.inv, Ext.refl _ _, Kept.refl _ _ _, hS2.fr, hS2.size, MarksD.nil _ _ _, hS2.rnd⟩
        have hkeep : ∀ x ∈ s.A ++ s.B, x.ev fr4 = x.ev fr3 ∨ x.ev fr4 = .junk := fun x hx => by
         cases x with
         | v e => exact .inl rfl
         | t m =>
          have := List.all_eq_true.1 hok2 _ hx
          exact nowr_exec (t := m) this p1
        refine codeM_wp hC hm hnt hR (.inl rfl) y k _ y' hy g2 osd fr3 _ w2 hS3 _ _ _ p1 _ (fun hk g4 a4 w4 hS4 hl4 => ?_) (fun hk g4 a4 w4 u hS4 hu hl4 => ?_)
        · rcases p2 with ⟨q, _⟩ | ⟨p2, r5⟩
          · exact (hk q).elim
          obtain ⟨v, u1, _, u3⟩ := runSteps_one rfl r5
          simp only [endStep, Fr.put] at u3
          subst u3
          have hcall : C (defNo + s.f) (evs fr' (s.A ++ s.B ++ [.v pagg])) h4 = some (v, h') := by simpa [endStep, runOp, DOp.kind, act] using u1
          obtain ⟨os4, lim4⟩ := h4
          simp only at hl4
          subst hl4
          obtain ⟨msx, mx1, mx2, _⟩ := hS4.marks
          have hS5 : Stands ({ target := .fn (.func s.f) fb, args := fa } :: (bs.map fun b => { target := .collected b, args := #[] }), false) lim4 B w0 fn.ntmps Fence.wide g2 osd g4 os4 fr' a4 w4 :=
           ⟨hS4.inv, hS4.ext, hS4.kept, hS4.fr, hS4.size, ⟨msx, mx1, mx2, fun q => by cases q⟩, hS4.rnd⟩
          have fin := fin_catch hC (fn := fn) (s := s) (frd := fr3) hS5 hS2.ext hS2.kept q2 q3 hA hB hkeep hfg hbg hng hlt hcall hres hrv hsh
          rcases p2 with rfl | rfl <;> exact fin
        · rcases p2 with ⟨_, r5⟩ | ⟨q, _⟩
          · obtain ⟨v, u1, _, u3⟩ := runSteps_one rfl r5
            simp only [panStep, Fr.put] at u3
            subst u3
            have hcall : C (panNo + s.f) (evs fr' (s.A ++ s.B ++ [.t 3002, .v pagp])) h4 = some (v, h') := by simpa [panStep, runOp, DOp.kind, act] using u1
            obtain ⟨os4, lim4⟩ := h4
            simp only at hl4
            subst hl4
            exact fin_catchP hC (fn := fn) (s := s) (frd := fr3) hS4 hS2.ext hS2.kept q2 q3 hA hB hkeep hfg hbg hng hlt hu hcall hres hrR hrv hsh
          · rcases q with rfl | rfl <;> cases hk
      · cases hc
    · cases hc
  · split at hc
    · rename_i x' k1 hx'
      split at hc
      · rename_i y' k2 hy'
        cases hc
        simp only [exec] at hx
        split at hx
        · rename_i fr1 h1 he
          refine code_wp hC hD hT (.inl rfl) x k k1 x' hx' (fun h => (by cases h)) g1 os1 fr a w1 hS _ _ _ he _ fun g2 a2 w2 hS2 hl => ?_
          obtain ⟨osd, limd⟩ := h1
          simp only at hl
          subst hl
          exact ihy _ _ _ hy' g2 osd fr1 a2 w2 hS2 _ _ _ hx hne hrv hsh
        · rename_i hnn
          refine code_wp hC hD hT (.inl rfl) x k k1 x' hx' (fun h => (by cases h)) g1 os1 fr a w1 hS _ _ _ hx _ fun g2 a2 w2 hS2 hl => ?_
          cases e with
          | normal => exact absurd hx (hnn _ _)
          | exit i => exact (hne i rfl).elim
          | ret =>
           obtain ⟨osd, limd⟩ := h'
           obtain ⟨ms, m0, ⟨bs, q1, q2, q3⟩, _⟩ := hS2.marks
           show LeavesInM _ _ _ _ _ _ a2.defers .returning w2
           rw [m0, List.append_nil, q1]
           exact fin_marks hS2.inv hS2.ext hS2.kept hS2.fr q2 q3 hres hrv hsh
      · cases hc
    · cases hc
 | _ => intro k k' d hc; simp [compSpineM] at hc
def compCatchM (P : Program) (plan : Nat → Option (List Nat)) (M : Nat → Bool) (ty : Nat) (s : CSpec) (keeps : List (List Nat)) (share : Bool) (fn : Func) : Option DFn :=
 match fn.body with
 | some c => match compRes P fn.results.toList with
  | some rs => match compSpineM P fn.ntmps (drawOf P fn.ntmps plan) plan M ty (rs.map resAt) s c keeps with
   | some (d, []) => if fn.params.size + fn.nfree ≤ fn.ntmps ∧ fn.ntmps ≤ 3000 ∧ (rs.map resAt).all (fun t => Nat.blt t 3000) = true then some ⟨fn.params.size + fn.nfree, d, rs, share, false, false⟩ else none
   | _ => none
  | none => none
 | none => none
theorem goodCatchM (hm : P.follows .mixedOrders = true) {f : Nat} {d : DFn} (hltf : f < defNo) {fn fg : Func} {plan : Nat → Option (List Nat)} {M : Nat → Bool} {ty : Nat} {s : CSpec} {keeps : List (List Nat)} {share : Bool} (hf : P.funcs[f]? = some fn) (hn : (fn.name == "runtime.NumGoroutine") = false) (hT : SiteOK P fn.ntmps (drawOf P fn.ntmps plan))
 (hfg : P.funcs[s.f]? = some fg) (hbg : fg.body.isSome = true) (hng : (fg.name == "runtime.NumGoroutine") = false) (hlt : s.f < 1000000) (hc : compCatchM P plan M ty s keeps share fn = some d) : GoodFn P f d := by
 refine ⟨fun C hC _ B w0 w g os lim args vs r h' hI hv h => ?_, fun C ih ihp B w0 w g os lim n args vs r h' e => by omega, fun C ih ihp B w0 w g os lim n args vs r h' e => by simp only [defNo, mayNo] at *; omega, fun C ih ihp B w0 w g os lim n args vs x u r h' e => by simp only [defNo, panNo] at *; omega⟩
 unfold compCatchM at hc
 split at hc
 · rename_i c hb
   split at hc
   · rename_i rs hres
     split at hc
     · rename_i dc hcode
       split at hc
       · rename_i hcond
         obtain ⟨hnp, hnt, hlow⟩ := hcond
         cases hc
         obtain ⟨hlen, e, fr1, h1, rvs, rvs2, os2, hex, hne, hrv, hsh, rfl, rfl⟩ := body_split rfl rfl h
         refine ⟨rfl, ?_⟩
         have hl := (RVs_get.1 hv).1
         have hS : Stands ([], false) lim B w0 fn.ntmps Fence.wide g os g os (args0 0 args) { tmps := vs.toArray ++ Array.replicate (fn.ntmps - vs.toArray.size) undef, defers := [] } w :=
          ⟨hI, Ext.refl g os, Kept.refl lim g os, args_fr hv _, by simp at hlen ⊢; omega, MarksD.nil ([], false) g g, fun l hl => by cases hl⟩
         have key : Calls P f vs.toArray w (RetW lim B w0 g os os2 (oneEV rvs2)) :=
          callsIn_wide.1 (callsIn_of_wp_marks (F := Fence.wide) (n := 0) hf hb trivial (spineM_wp hC hm hnt (fun t ht => by have := List.all_eq_true.1 hlow t ht; simpa using this) (drawOf_ok hC hm _ _) hT hfg hbg hng hlt hres (fun r hr => List.mem_map.2 ⟨r, hr, rfl⟩) c keeps [] dc hcode g os _ _ w hS e fr1 h1 hex hne hrv hsh))
         have hrun : (callFunc f vs.toArray).run P w = .ok (.enter f vs.toArray) w := by
          have hn' : fn.name ≠ "runtime.NumGoroutine" := by simpa using hn
          simp [callFunc, hf, hn', hb]
         unfold Enters
         rw [hrun]
         refine Calls.mono key fun e w' q => ?_
         cases e with
         | returned v => exact q
         | panicked c => exact q
         | outgrown => exact q
       · cases hc
     · cases hc
   · cases hc
 · cases hc
def compPan (P : Program) (dr : DrawFn) (keeps : List (List Nat)) (fn : Func) : Option DFn :=
 match fn.body with
 | some (.seq (.region _ ops false) c2) => match ops.toList with
  | o0 :: rest => match o0.op, o0.guard, o0.dst with
   | .call c, none, some d0 => match c.callee with
    | .builtin .recover => match compList P fn.ntmps ops rest, compCode P fn.ntmps dr c2 keeps, compRes P fn.results.toList with
     | some l, some (c2', []), some rs => if d0 < fn.ntmps ∧ rest.all (fun o => plainOp o.op) = true ∧ fn.params.size + fn.nfree ≤ fn.ntmps ∧ c2'.noRange = true ∧ d0 ≠ fn.params.size + fn.nfree then
      some ⟨fn.params.size + fn.nfree + 2, .seq (.ops [sign (fn.params.size + fn.nfree + 1) pagp]) (.seq (.ops [⟨some d0, .mv (.t (fn.params.size + fn.nfree)), none, []⟩, cl (fn.params.size + fn.nfree)]) (.seq (.ops l) c2')), rs, false, false, false⟩ else none
     | _, _, _ => none
    | _ => none
   | _, _, _ => none
  | [] => none
 | _ => none
theorem goodPan {n : Nat} {d : DFn} {fn : Func} {dr : DrawFn} {keeps : List (List Nat)} (hf : P.funcs[n]? = some fn) (hD : ∀ C, CallOK P C → DrawOK P C fn.ntmps dr) (hT : SiteOK P fn.ntmps dr)
 (hc : compPan P dr keeps fn = some d) : GoodFn P (panNo + n) d := by
 unfold compPan at hc
 split at hc
 · rename_i rid ops c2 hb
   split at hc
   · rename_i o0 rest hops
     split at hc
     · rename_i c d0 h1 h2 h3
       split at hc
       · rename_i h4
         split at hc
         · rename_i l c2' rs hl hc2 hres
           split at hc
           · rename_i hcond
             obtain ⟨k1, k2, k3, k4, k5⟩ := hcond
             cases hc
             have start : ∀ {C : CallFn} {args : List EV} {os : List Obj} {lim : Nat} {r : EV} {h' : Hp}, body C ⟨fn.params.size + fn.nfree + 2, .seq (.ops [sign (fn.params.size + fn.nfree + 1) pagp]) (.seq (.ops [⟨some d0, .mv (.t (fn.params.size + fn.nfree)), none, []⟩, cl (fn.params.size + fn.nfree)]) (.seq (.ops l) c2')), rs, false, false, false⟩ args ⟨os, lim⟩ = some (r, h') →
              args.length = fn.params.size + fn.nfree + 2 ∧ (args0 0 args).get (fn.params.size + fn.nfree + 1) = pagp ∧ ∃ e fr1 h1 rvs, exec C (.seq (.ops l) c2') ((fn.params.size + fn.nfree, .tup []) :: (d0, (args0 0 args).get (fn.params.size + fn.nfree)) :: (fn.params.size + fn.nfree + 1, .tup []) :: args0 0 args, ⟨os, lim⟩) = some (e, fr1, h1) ∧ (∀ i, e ≠ .exit i) ∧ resultsOf fr1 h1 rs = some rvs ∧ r = oneEV rvs ∧ h' = ⟨h1.objs, lim⟩ := by
              intro C args os lim r h' h
              obtain ⟨hlen, e, fr1, h1, rvs, rvs2, os2, hex, hne, hrv, hsh, rfl, rfl⟩ := body_split rfl rfl h
              obtain ⟨fr2, h2, q1, hx⟩ := exec_seq_ops hex
              obtain ⟨rfl, rfl, q2⟩ := sign_ok q1
              obtain ⟨fr3, h3, q3, hx3⟩ := exec_seq_ops hx
              obtain ⟨fr4, h4, q4, q5⟩ := runSteps_cons q3
              obtain ⟨v, q6, _, rfl⟩ := runStep_plain q4
              obtain ⟨u, q7, _, q8⟩ := runSteps_one rfl q5
              simp [runOp, DOp.kind, look, X.ev] at q6
              simp [cl, runOp, DOp.kind, look, X.ev] at q7
              obtain ⟨rfl, rfl⟩ := q6
              obtain ⟨rfl, rfl⟩ := q7
              subst q8
              simp only [Bool.false_eq_true, if_false, Option.some.injEq, Prod.mk.injEq] at hsh
              obtain ⟨rfl, rfl⟩ := hsh
              refine ⟨hlen, q2, e, fr1, h1, rvs, ?_, hne, hrv, rfl, rfl⟩
              have hg : Fr.get ((fn.params.size + fn.nfree + 1, EV.tup []) :: args0 0 args) (fn.params.size + fn.nfree) = (args0 0 args).get (fn.params.size + fn.nfree) := by
               simp [Fr.get]
              rw [hg] at hx3
              exact hx3
             refine ⟨fun C _ _ B w0 w g os lim args vs r h' hI hv h => ?_, fun C _ _ B w0 w g os lim m args vs r h' _ hI hv h => ?_, fun C _ _ B w0 w g os lim m args vs r h' _ hI hv h => ?_, fun C hC _ B w0 w g os lim m args vs x u r h' hm hI hv hxr h => ?_⟩
             · obtain ⟨q1, q2, _⟩ := start h
               rw [args0_get] at q2
               simp only [Nat.zero_le, if_true, Nat.sub_zero] at q2
               have hi : fn.params.size + fn.nfree + 1 < args.length := by omega
               rw [List.getElem?_eq_getElem hi, Option.getD_some] at q2
               obtain ⟨v, _, hr⟩ := (RVs_get.1 hv).2 _ _ (List.getElem?_eq_getElem hi)
               rw [q2] at hr
               exact hr.elim
             · obtain ⟨q1, q2, _⟩ := start h
               have : args.length = fn.params.size + fn.nfree + 1 := by simpa using q1
               rw [args0_get, ← this] at q2
               simp [pagg, pagp] at q2
             · obtain ⟨q1, q2, _⟩ := start h
               have : args.length = fn.params.size + fn.nfree + 1 := by simpa using q1
               rw [args0_get, ← this] at q2
               simp [pagm, pagp] at q2
             · have hmn : m = n := by omega
               subst hmn
               obtain ⟨q1, q2, e, fr1, hh1, rvs, hx0, hne, hrv, rfl, rfl⟩ := start h
               refine ⟨rfl, ?_⟩
               have hlen : args.length = fn.params.size + fn.nfree := by simpa using q1
               have hl2 := (RVs_get.1 hv).1
               have hxv : (args0 0 (args ++ [x, pagp])).get (fn.params.size + fn.nfree) = x := by
                rw [args0_get, ← hlen]; simp
               rw [hxv] at hx0
               obtain ⟨fr2, h2', r1, hx⟩ := exec_seq_ops hx0
               clear hx0
               have hS : Stands ([], true) lim B w0 fn.ntmps Fence.wide g os g os ((fn.params.size + fn.nfree, .tup []) :: (d0, x) :: (fn.params.size + fn.nfree + 1, .tup []) :: args0 0 (args ++ [x, pagp])) (Act.put { tmps := vs.toArray ++ Array.replicate (fn.ntmps - vs.toArray.size) undef, defers := [] } (some d0) u) w := by
                have hsz : (vs.toArray ++ Array.replicate (fn.ntmps - vs.toArray.size) undef).size = fn.ntmps := by simp; omega
                refine ⟨hI, Ext.refl g os, Kept.refl lim g os, fun t _ => ?_, by rw [size_put]; exact hsz, by rw [defers_put]; exact MarksD.nil ([], true) g g, fun l hl => by cases hl⟩
                have hund : ∀ t, fn.params.size + fn.nfree ≤ t → Act.eval { tmps := vs.toArray ++ Array.replicate (fn.ntmps - vs.toArray.size) undef, defers := [] } (.tmp t) = undef := fun t ht => by
                 simp only [Act.eval, Array.getD_eq_getD_getElem?]
                 rw [Array.getElem?_append_right (by simp; omega)]
                 rw [Array.getElem?_replicate]
                 split <;> rfl
                rw [eval_put]
                show RV g os (if fn.params.size + fn.nfree = t then .tup [] else if d0 = t then x else if fn.params.size + fn.nfree + 1 = t then .tup [] else (args0 0 (args ++ [x, pagp])).get t) _
                by_cases ht : fn.params.size + fn.nfree = t
                · rw [if_pos ht, if_neg (fun q => k5 (by rw [q.1, ht])), hund t (by omega)]
                  exact RV.undef g os
                · rw [if_neg ht]
                  by_cases hd : d0 = t
                  · rw [if_pos hd, if_pos ⟨hd, by simp only; rw [hsz]; exact k1⟩]
                    exact hxr
                  · rw [if_neg hd, if_neg (c := d0 = t ∧ _) (fun q => hd q.1)]
                    by_cases ht1 : fn.params.size + fn.nfree + 1 = t
                    · rw [if_pos ht1, hund t (by omega)]
                      exact RV.undef g os
                    · rw [if_neg ht1, args0_get]
                      simp only [Nat.zero_le, if_true, Nat.sub_zero]
                      by_cases htl : t < args.length
                      · rw [List.getElem?_append_left htl]
                        have := args_fr (g := g) (os := os) hv (fn.ntmps - vs.toArray.size) t trivial
                        rw [args0_get] at this
                        simpa only [Nat.zero_le, if_true, Nat.sub_zero] using this
                      · rw [List.getElem?_eq_none (by simp; omega)]
                        trivial
               refine callsDIn_of_wpSIn (F := Fence.wide) (n := 0) hf hb trivial fun c₀ cs hmode => wpSIn_seq (wpSIn_region ?_)
               have hsz : ops.size = rest.length + 1 := by
                have := congrArg List.length hops
                simpa using this
               have hget : ∀ i : Nat, ops[i]? = (o0 :: rest)[i]? := fun i => by rw [← hops]; simp
               rw [hsz, List.range_succ_eq_map]
               have h00 : ops[0]? = some o0 := by rw [hget]; rfl
               simp only [wpOpsSIn, h00]
               refine ⟨fun f _ => trivial, ?_⟩
               have hw : Region.wanted o0 (yielded ops (vs.toArray ++ Array.replicate (fn.ntmps - vs.toArray.size) undef)) = true := by simp [Region.wanted, h2]
               rw [if_pos hw]
               obtain ⟨ccs, hex⟩ := call_builtin (ρ := Act.eval { tmps := vs.toArray ++ Array.replicate (fn.ntmps - vs.toArray.size) undef, defers := [] }) h1 h4
               have hrec : recoverD (c₀ :: cs) = some (u, { c₀ with mode := .panicking [{ v := u, recovered := true }] } :: cs) := by simp [recoverD, hmode]
               rw [hex]
               simp only [builtin, Sem.run_pure, hrec]
               rw [h3]
               refine opsS (K := fun a w => ∃ g' , Stands ([], true) lim B w0 fn.ntmps Fence.wide g os g' h2'.objs fr2 a w ∧ h2'.lim = lim) rfl (fun a w hK => ?_) _ _ _ (fun i hi o ho => ?_) (steps_wp hC (.inl rfl) _ rest l ?_ hl g os _ _ w hS fr2 h2' r1 fun g' a' w' hS' hl' => ⟨rfl, g', hS', hl'⟩)
               · obtain ⟨g', hS', hl'⟩ := hK
                 obtain ⟨os', lim'⟩ := h2'
                 simp only at hl'
                 subst hl'
                 refine wpSIn_of_wpIn rfl (code_wp hC (hD C hC) hT (.inl rfl) c2 keeps [] c2' hc2 (fun _ => k4) g' os' fr2 a w hS' _ _ _ hx _ fun g2 a2 w2 hS2 hl2' => ?_)
                 obtain ⟨os1, lim1⟩ := hh1
                 obtain ⟨ms, m0, _, m3⟩ := hS2.marks
                 have hnil : a2.defers = [] := by rw [m0, m3 rfl]; rfl
                 obtain ⟨us, hru, hrs⟩ := results_ok (P := P) hS2.inv hS2.fr hres hrv
                 have fin : a2.defers = [] ∧ ∃ u', ({ c₀ with mode := .panicking [{ v := u, recovered := true }] } :: cs : List Frame) = { c₀ with mode := u' } :: cs ∧ ∃ v, (results fn a2.tmps).run P w2 = .ok v w2 ∧ ∃ v', Ending.returned v = .returned v' ∧ u' = .panicking [{ v := u, recovered := true }] ∧ Went lim' B w0 g os os1 (oneEV rvs) v' w2 :=
                  ⟨hnil, _, rfl, _, hru, _, rfl, rfl, g2, hS2.inv, hS2.ext, hS2.kept, one_ok hrs⟩
                 cases e with
                 | normal => exact fin
                 | ret => exact fin
                 | exit i => exact (hne i rfl).elim
               · simp only [List.mem_map] at hi
                 obtain ⟨j, _, rfl⟩ := hi
                 rw [hget] at ho
                 simp only [List.getElem?_cons_succ] at ho
                 exact List.all_eq_true.1 k2 o (List.mem_of_getElem? ho)
               · apply List.ext_getElem?
                 intro i
                 simp only [List.map_map, List.getElem?_map]
                 by_cases hi : i < rest.length
                 · rw [List.getElem?_range hi, Option.map_some, List.getElem?_eq_getElem hi]
                   simp only [Function.comp, hget, List.getElem?_cons_succ, List.getElem?_eq_getElem hi, Option.map_some]
                 · rw [List.getElem?_eq_none (by simp; omega), List.getElem?_eq_none (by omega)]
                   rfl
           · cases hc
         · cases hc
       · cases hc
     · cases hc
   · cases hc
 · cases hc
end Dk
