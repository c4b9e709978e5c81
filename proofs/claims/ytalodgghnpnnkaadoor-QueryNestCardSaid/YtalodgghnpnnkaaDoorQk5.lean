/- D, fifth part: how D's code is walked; a law's arguments as plain data; from D's call of a law to the law's row. No condition. -/
import Derived.Test.YtalodgghnpnnkaaDoorQk3
import Derived.DataReads
import Derived.Carry
import Derived.RowKit3
import Derived.ProofKit
import Derived.OpenShut
import Derived.Test.YtalodgghnpnnkaaDoorQk4
import Derived.Handed
import Derived.HandedShaped
import Derived.Lib.LaidTab
import Derived.Shelf.Vars
set_option linter.unusedVariables false
set_option linter.unusedSimpArgs false
set_option linter.unusedSectionVars false
namespace Dk
open Go
abbrev eI (n : Int) : EV := .p (.int .i64 n)
abbrev eB (b : Bool) : EV := .p (.bool b)
abbrev xI (n : Int) : X := .v (.p (.int .i64 n))
abbrev xB (b : Bool) : X := .v (.p (.bool b))
abbrev S (d : Nat) (op : DOp) : Step := ⟨some d, op, none, []⟩
abbrev E (op : DOp) : Step := ⟨none, op, none, []⟩
def bs (l : List Nat) : ByteArray := ⟨(l.map Nat.toUInt8).toArray⟩
def plans : List (Nat × List Nat) → Nat → Option (List Nat)
 | [], _ => none
 | (i, l) :: r, k => if i = k then some l else plans r k
def WV (v : EV) (K : EV → Prop) : Prop := K v
def WO (o : Option EV) (K : EV → Prop) : Prop := ∃ v, o = some v ∧ K v
def WA (o : Option (EV × Hp)) (K : EV → Hp → Prop) : Prop := ∃ v h, o = some (v, h) ∧ K v h
def WH (o : Option Hp) (K : Hp → Prop) : Prop := ∃ h, o = some h ∧ K h
def WB (v : EV) (p q : Prop) : Prop := match v with
 | .p (.bool true) => p
 | .p (.bool false) => q
 | _ => False
def WS (C : CallFn) (l : List Step) (fr : Fr) (h : Hp) (K : Fr → Hp → Prop) : Prop := ∃ fr' h', runSteps C l fr h = some (fr', h') ∧ K fr' h'
def W (C : CallFn) (d : DC) (fr : Fr) (h : Hp) (Q : Ex → Fr → Hp → Prop) : Prop := ∃ e fr' h', exec C d (fr, h) = some (e, fr', h') ∧ Q e fr' h'
theorem WO_some (v : EV) (K : EV → Prop) : WO (some v) K = K v := by simp [WO]
theorem WA_some (v : EV) (h : Hp) (K : EV → Hp → Prop) : WA (some (v, h)) K = K v h := by simp [WA, and_assoc]
theorem WH_some (h : Hp) (K : Hp → Prop) : WH (some h) K = K h := by simp [WH]
theorem WA.mono {o : Option (EV × Hp)} {K K' : EV → Hp → Prop} (h : WA o K) (hk : ∀ v h, K v h → K' v h) : WA o K' := by
 obtain ⟨v, h1, e, q⟩ := h
 exact ⟨v, h1, e, hk v h1 q⟩
theorem W.mono {C : CallFn} {d : DC} {fr : Fr} {h : Hp} {Q Q' : Ex → Fr → Hp → Prop} (hw : W C d fr h Q) (hk : ∀ e f h, Q e f h → Q' e f h) : W C d fr h Q' := by
 obtain ⟨e, f, h1, q, r⟩ := hw
 exact ⟨e, f, h1, q, hk e f h1 r⟩
theorem WS.mono {C : CallFn} {l : List Step} {fr : Fr} {h : Hp} {Q Q' : Fr → Hp → Prop} (hw : WS C l fr h Q) (hk : ∀ f h, Q f h → Q' f h) : WS C l fr h Q' := by
 obtain ⟨f, h1, q, r⟩ := hw
 exact ⟨f, h1, q, hk f h1 r⟩
section steps
variable (C : CallFn) (l : List Step) (fr : Fr) (h : Hp) (K : Fr → Hp → Prop)
theorem WS_nil : WS C [] fr h K = K fr h := by simp [WS, runSteps, and_assoc]
theorem WS_step (s : Step) : WS C (s :: l) fr h K = ∃ fr1 h1, runStep C s fr h = some (fr1, h1) ∧ WS C l fr1 h1 K := by
 apply propext
 simp only [WS, runSteps]
 constructor
 · rintro ⟨f, h', e, q⟩
   split at e
   · rename_i fr1 h1 hr
     exact ⟨fr1, h1, hr, f, h', e, q⟩
   · cases e
 · rintro ⟨fr1, h1, hr, f, h', e, q⟩
   exact ⟨f, h', by rw [hr]; exact e, q⟩
theorem WS_look_gen (d : Option Nat) (op : DOp) (hk : op.kind = 0) : WS C (⟨d, op, none, []⟩ :: l) fr h K = WO (look op fr h) (fun v => WS C l (fr.put d v) h K) := by
 rw [WS_step]
 apply propext
 simp only [runStep, runOp, hk, still, WO]
 constructor
 · rintro ⟨fr1, h1, hr, q⟩
   cases hl : look op fr h with
   | none => simp [hl] at hr
   | some v =>
    simp [hl] at hr
    obtain ⟨rfl, rfl⟩ := hr
    exact ⟨v, rfl, q⟩
 · rintro ⟨v, hv, q⟩
   exact ⟨_, _, by simp [hv], q⟩
theorem WS_make_gen (d : Option Nat) (op : DOp) (hk : op.kind = 1) : WS C (⟨d, op, none, []⟩ :: l) fr h K = WA (make op fr h) (fun v h => WS C l (fr.put d v) h K) := by
 rw [WS_step]
 apply propext
 simp only [runStep, runOp, hk, still, WA]
 constructor
 · rintro ⟨fr1, h1, hr, q⟩
   cases hl : make op fr h with
   | none => simp [hl] at hr
   | some v =>
    simp [hl] at hr
    obtain ⟨rfl, rfl⟩ := hr
    exact ⟨v.1, v.2, rfl, q⟩
 · rintro ⟨v, h', hv, q⟩
   exact ⟨_, _, by simp [hv], q⟩
theorem WS_act_gen (d : Option Nat) (op : DOp) (hk : op.kind = 2) (cs : List Chk) : WS C (⟨d, op, none, cs⟩ :: l) fr h K = WA (act C op fr h) (fun v h => still fr h cs = true ∧ WS C l (fr.put d v) h K) := by
 rw [WS_step]
 apply propext
 simp only [runStep, runOp, hk, WA]
 constructor
 · rintro ⟨fr1, h1, hr, q⟩
   cases hl : act C op fr h with
   | none => simp [hl] at hr
   | some v =>
    simp [hl] at hr
    obtain ⟨hs, rfl, rfl⟩ := hr
    exact ⟨v.1, v.2, rfl, hs, q⟩
 · rintro ⟨v, h', hv, hs, q⟩
   exact ⟨fr.put d v, h', by simp [hv, hs], q⟩
theorem WS_guard (d : Option Nat) (op : DOp) (t : Nat) (want : Bool) (cs : List Chk) : WS C (⟨d, op, some (t, want), cs⟩ :: l) fr h K = (match guardVal (fr.get t) want with
 | some true => WS C (⟨d, op, none, cs⟩ :: l) fr h K
 | some false => WS C l (fr.put d (.tup [])) h K
 | none => False) := by
 rw [WS_step, WS_step]
 apply propext
 simp only [runStep]
 cases guardVal (fr.get t) want with
 | none => simp
 | some b => cases b <;> simp [and_assoc]
theorem WS_act0 (d : Option Nat) (op : DOp) (hk : op.kind = 2) : WS C (⟨d, op, none, []⟩ :: l) fr h K = WA (act C op fr h) (fun v h => WS C l (fr.put d v) h K) := by
 rw [WS_act_gen _ _ _ _ _ _ _ hk]; simp [still]
end steps
section codes
variable (C : CallFn) (fr : Fr) (h : Hp) (Q : Ex → Fr → Hp → Prop)
theorem W_skip : W C .skip fr h Q = Q .normal fr h := by simp [W, exec, and_assoc]
theorem W_exit (i : Nat) : W C (.exit i) fr h Q = Q (.exit i) fr h := by simp [W, exec, and_assoc]
theorem W_ret : W C .ret fr h Q = Q .ret fr h := by simp [W, exec, and_assoc]
theorem W_ops (l : List Step) : W C (.ops l) fr h Q = WS C l fr h (fun f h => Q .normal f h) := by
 apply propext
 simp only [W, WS, exec]
 constructor
 · rintro ⟨e, f, h', r, q⟩
   split at r
   · rename_i f1 h1 hr
     cases r
     exact ⟨_, _, hr, q⟩
   · cases r
 · rintro ⟨f, h', r, q⟩
   exact ⟨.normal, f, h', by rw [r], q⟩
theorem W_seq (a b : DC) : W C (.seq a b) fr h Q = W C a fr h (fun e f h => match e with
 | .normal => W C b f h Q
 | e => Q e f h) := by
 apply propext
 simp only [W, exec]
 constructor
 · rintro ⟨e, f, h', r, q⟩
   split at r
   · rename_i f1 h1 hr
     exact ⟨.normal, f1, h1, hr, e, f, h', r, q⟩
   · rename_i hne
     cases e with
     | normal => exact absurd r (hne _ _)
     | exit i => exact ⟨_, _, _, r, q⟩
     | ret => exact ⟨_, _, _, r, q⟩
 · rintro ⟨e, f, h', r, q⟩
   cases e with
   | normal =>
    obtain ⟨e, f2, h2, r2, q2⟩ := q
    exact ⟨e, f2, h2, by rw [r]; exact r2, q2⟩
   | exit i => exact ⟨_, f, h', by rw [r], q⟩
   | ret => exact ⟨_, f, h', by rw [r], q⟩
theorem W_cond (x : X) (a b : DC) : W C (.cond x a b) fr h Q = WV (x.ev fr) (fun v => WB v (W C a fr h Q) (W C b fr h Q)) := by
 apply propext
 simp only [W, exec, WV, WB]
 cases hv : x.ev fr with
 | p y =>
  cases y with
  | bool b => cases b <;> simp
  | _ => simp
 | _ => simp
theorem W_block (i : Nat) (c : DC) : W C (.block i c) fr h Q = W C c fr h (fun e f h => match e with
 | .exit j => if j = i then Q .normal f h else Q (.exit j) f h
 | e => Q e f h) := by
 apply propext
 simp only [W, exec]
 constructor
 · rintro ⟨e, f, h', r, q⟩
   split at r
   · rename_i j f1 h1 hr
     split at r
     · rename_i hj
       cases r
       exact ⟨_, _, _, hr, by simp only [if_pos hj]; exact q⟩
     · rename_i hj
       cases r
       exact ⟨_, _, _, hr, by simp only [if_neg hj]; exact q⟩
   · rename_i hne
     cases e with
     | exit j => exact absurd r (hne _ _ _)
     | normal => exact ⟨_, _, _, r, q⟩
     | ret => exact ⟨_, _, _, r, q⟩
 · rintro ⟨e, f, h', r, q⟩
   cases e with
   | exit j =>
    by_cases hj : j = i
    · simp [hj] at q
      exact ⟨_, f, h', by rw [r]; simp [hj], q⟩
    · simp [hj] at q
      exact ⟨_, f, h', by rw [r]; simp [hj], q⟩
   | normal => exact ⟨_, f, h', by rw [r], q⟩
   | ret => exact ⟨_, f, h', by rw [r], q⟩
end codes
inductive Ct where
 | ops (l : List Step)
 | code (d : DC)
 | block (i : Nat)
def Run (C : CallFn) : List Ct → Ex → Fr → Hp → (Ex → Fr → Hp → Prop) → Prop
 | [], e, fr, h, Q => Q e fr h
 | .ops l :: k, .normal, fr, h, Q => WS C l fr h fun f h => Run C k .normal f h Q
 | .code d :: k, .normal, fr, h, Q => W C d fr h fun e f h => Run C k e f h Q
 | .block _ :: k, .normal, fr, h, Q => Run C k .normal fr h Q
 | .block i :: k, .exit j, fr, h, Q => if j = i then Run C k .normal fr h Q else Run C k (.exit j) fr h Q
 | _ :: k, e, fr, h, Q => Run C k e fr h Q
def PutV (C : CallFn) (d : Option Nat) (v : EV) (k : List Ct) (fr : Fr) (h : Hp) (Q : Ex → Fr → Hp → Prop) : Prop := Run C k .normal (fr.put d v) h Q
def PutO (C : CallFn) (d : Option Nat) (o : Option EV) (k : List Ct) (fr : Fr) (h : Hp) (Q : Ex → Fr → Hp → Prop) : Prop := WO o fun v => Run C k .normal (fr.put d v) h Q
def PutA (C : CallFn) (d : Option Nat) (o : Option (EV × Hp)) (k : List Ct) (fr : Fr) (Q : Ex → Fr → Hp → Prop) : Prop := WA o fun v h => Run C k .normal (fr.put d v) h Q
def PutC (C : CallFn) (d : Option Nat) (cs : List Chk) (o : Option (EV × Hp)) (k : List Ct) (fr : Fr) (Q : Ex → Fr → Hp → Prop) : Prop := WA o fun v h => still fr h cs = true ∧ Run C k .normal (fr.put d v) h Q
def Chks (C : CallFn) (cs : List Chk) (fr0 : Fr) (d : Option Nat) (v : EV) (k : List Ct) (fr : Fr) (h : Hp) (Q : Ex → Fr → Hp → Prop) : Prop := still fr0 h cs = true ∧ Run C k .normal (fr.put d v) h Q
def Br (C : CallFn) (v : EV) (a b : DC) (k : List Ct) (fr : Fr) (h : Hp) (Q : Ex → Fr → Hp → Prop) : Prop := WB v (Run C (.code a :: k) .normal fr h Q) (Run C (.code b :: k) .normal fr h Q)
def Pk (C : CallFn) (v : EV) (d : Option Nat) (a b : X) (k : List Ct) (fr : Fr) (h : Hp) (Q : Ex → Fr → Hp → Prop) : Prop := WB v (PutV C d (a.ev fr) k fr h Q) (PutV C d (b.ev fr) k fr h Q)
def Gd (C : CallFn) (v : EV) (want : Bool) (s : Step) (k : List Ct) (fr : Fr) (h : Hp) (Q : Ex → Fr → Hp → Prop) : Prop :=
 match guardVal v want with
 | some true => Run C (.ops [s] :: k) .normal fr h Q
 | some false => Run C k .normal (fr.put s.dst (.tup [])) h Q
 | none => False
theorem W_run {C : CallFn} {d : DC} {fr : Fr} {h : Hp} {Q : Ex → Fr → Hp → Prop} (hw : Run C [.code d] .normal fr h Q) : W C d fr h Q := by
 simpa only [Run] using hw
section run
variable (C : CallFn) (k : List Ct) (fr : Fr) (h : Hp) (Q : Ex → Fr → Hp → Prop)
theorem Run_nil (e : Ex) : Run C [] e fr h Q = Q e fr h := by simp only [Run]
theorem Run_ops_nil : Run C (.ops [] :: k) .normal fr h Q = Run C k .normal fr h Q := by simp only [Run, WS_nil]
theorem Run_block (i : Nat) : Run C (.block i :: k) .normal fr h Q = Run C k .normal fr h Q := by simp only [Run]
theorem Run_exit_block (i j : Nat) : Run C (.block i :: k) (.exit j) fr h Q = if j = i then Run C k .normal fr h Q else Run C k (.exit j) fr h Q := by simp only [Run]
theorem Run_exit_same (i : Nat) : Run C (.block i :: k) (.exit i) fr h Q = Run C k .normal fr h Q := by simp only [Run, if_true]
theorem Run_exit_ops (j : Nat) (l : List Step) : Run C (.ops l :: k) (.exit j) fr h Q = Run C k (.exit j) fr h Q := by simp only [Run]
theorem Run_exit_code (j : Nat) (d : DC) : Run C (.code d :: k) (.exit j) fr h Q = Run C k (.exit j) fr h Q := by simp only [Run]
theorem Run_ret_ops (l : List Step) : Run C (.ops l :: k) .ret fr h Q = Run C k .ret fr h Q := by simp only [Run]
theorem Run_ret_code (d : DC) : Run C (.code d :: k) .ret fr h Q = Run C k .ret fr h Q := by simp only [Run]
theorem Run_ret_block (i : Nat) : Run C (.block i :: k) .ret fr h Q = Run C k .ret fr h Q := by simp only [Run]
theorem Run_skip : Run C (.code .skip :: k) .normal fr h Q = Run C k .normal fr h Q := by simp only [Run, W_skip]
theorem Run_exit (i : Nat) : Run C (.code (.exit i) :: k) .normal fr h Q = Run C k (.exit i) fr h Q := by simp only [Run, W_exit]
theorem Run_ret : Run C (.code .ret :: k) .normal fr h Q = Run C k .ret fr h Q := by simp only [Run, W_ret]
theorem Run_ops (l : List Step) : Run C (.code (.ops l) :: k) .normal fr h Q = Run C (.ops l :: k) .normal fr h Q := by simp only [Run, W_ops]
theorem Run_seq (a b : DC) : Run C (.code (.seq a b) :: k) .normal fr h Q = Run C (.code a :: .code b :: k) .normal fr h Q := by
 simp only [Run, W_seq]
 congr 1
 funext e f h
 cases e <;> rfl
theorem Run_bl (i : Nat) (c : DC) : Run C (.code (.block i c) :: k) .normal fr h Q = Run C (.code c :: .block i :: k) .normal fr h Q := by
 simp only [Run, W_block]
 congr 1
 funext e f h
 cases e <;> rfl
theorem Run_cond (x : X) (a b : DC) : Run C (.code (.cond x a b) :: k) .normal fr h Q = Br C (x.ev fr) a b k fr h Q := by
 simp only [Run, W_cond, Br, WV]
theorem Br_true (a b : DC) : Br C (eB true) a b k fr h Q = Run C (.code a :: k) .normal fr h Q := rfl
theorem Br_false (a b : DC) : Br C (eB false) a b k fr h Q = Run C (.code b :: k) .normal fr h Q := rfl
theorem Br_not (x : Bool) (a b : DC) : Br C (eB (!x)) a b k fr h Q = Br C (eB x) b a k fr h Q := by cases x <;> rfl
theorem Pk_true (d : Option Nat) (a b : X) : Pk C (eB true) d a b k fr h Q = PutV C d (a.ev fr) k fr h Q := rfl
theorem Pk_false (d : Option Nat) (a b : X) : Pk C (eB false) d a b k fr h Q = PutV C d (b.ev fr) k fr h Q := rfl
theorem Pk_not (x : Bool) (d : Option Nat) (a b : X) : Pk C (eB (!x)) d a b k fr h Q = Pk C (eB x) d b a k fr h Q := by cases x <;> rfl
theorem Gd_tt (s : Step) : Gd C (eB true) true s k fr h Q = Run C (.ops [s] :: k) .normal fr h Q := rfl
theorem Gd_ff (s : Step) : Gd C (eB false) false s k fr h Q = Run C (.ops [s] :: k) .normal fr h Q := rfl
theorem Gd_tf (s : Step) : Gd C (eB true) false s k fr h Q = PutV C s.dst (.tup []) k fr h Q := rfl
theorem Gd_ft (s : Step) : Gd C (eB false) true s k fr h Q = PutV C s.dst (.tup []) k fr h Q := rfl
theorem Gd_un (s : Step) (want : Bool) : Gd C (.tup []) want s k fr h Q = PutV C s.dst (.tup []) k fr h Q := rfl
theorem Gd_not (x want : Bool) (s : Step) : Gd C (eB (!x)) want s k fr h Q = Gd C (eB x) (!want) s k fr h Q := by cases x <;> cases want <;> rfl
theorem PutV_some (d : Nat) (v : EV) : PutV C (some d) v k fr h Q = Run C k .normal ((d, v) :: fr) h Q := rfl
theorem PutV_none (v : EV) : PutV C none v k fr h Q = Run C k .normal fr h Q := rfl
theorem PutO_some (d : Option Nat) (v : EV) : PutO C d (some v) k fr h Q = PutV C d v k fr h Q := by simp only [PutO, WO_some, PutV]
theorem PutA_some (d : Option Nat) (v : EV) : PutA C d (some (v, h)) k fr Q = PutV C d v k fr h Q := by simp only [PutA, WA_some, PutV]
theorem PutC_some (d : Option Nat) (cs : List Chk) (v : EV) : PutC C d cs (some (v, h)) k fr Q = Chks C cs fr d v k fr h Q := by simp only [PutC, WA_some, Chks]
theorem Chks_nil (fr0 : Fr) (d : Option Nat) (v : EV) : Chks C [] fr0 d v k fr h Q = PutV C d v k fr h Q := by simp only [Chks, still, true_and, PutV]
def stillOne (fr : Fr) (gd : Option (Nat × Bool)) (o : Option EV) (v : EV) : Prop := (match gd with
      | some (g, want) => match guardVal (fr.get g) want with
       | some b => !b
       | none => false
      | none => false) = true ∨ o = some v ∧ EV.eqb v v = true
theorem Chks_cons (d0 : Nat) (op : DOp) (gd : Option (Nat × Bool)) (r : List Chk) (fr0 : Fr) (d : Option Nat) (v : EV) : Chks C ((d0, op, gd) :: r) fr0 d v k fr h Q = (stillOne fr0 gd (look op fr0 h) (fr0.get d0) ∧ Chks C r fr0 d v k fr h Q) := by
 simp only [Chks, still, Bool.and_eq_true, Bool.or_eq_true, stillOne, and_assoc]
 congr 1
 apply propext
 constructor
 · rintro (q | q)
   · exact .inl q
   · cases hl : look op fr0 h with
     | none => simp [hl] at q
     | some u =>
      simp only [hl] at q
      have := EV.eqb_eq _ _ q
      subst this
      exact .inr ⟨rfl, q⟩
 · rintro (q | ⟨q1, q2⟩)
   · exact .inl q
   · exact .inr (by rw [q1]; exact q2)
end run
theorem PutA_of {C : CallFn} {d : Option Nat} {o : Option (EV × Hp)} {k : List Ct} {fr : Fr} {Q : Ex → Fr → Hp → Prop} {K : EV → Hp → Prop} (hw : WA o K) (hk : ∀ v h, K v h → PutV C d v k fr h Q) : PutA C d o k fr Q := hw.mono hk
theorem PutA_eq {C : CallFn} {d : Option Nat} {o : Option (EV × Hp)} {k : List Ct} {fr : Fr} {Q : Ex → Fr → Hp → Prop} {v : EV} {h : Hp} (e : o = some (v, h)) (hk : PutV C d v k fr h Q) : PutA C d o k fr Q := ⟨v, h, e, hk⟩
theorem PutC_of {C : CallFn} {d : Option Nat} {cs : List Chk} {o : Option (EV × Hp)} {k : List Ct} {fr : Fr} {Q : Ex → Fr → Hp → Prop} {K : EV → Hp → Prop} (hw : WA o K) (hk : ∀ v h, K v h → Chks C cs fr d v k fr h Q) : PutC C d cs o k fr Q := hw.mono hk
section runsteps
variable (C : CallFn) (l : List Step) (k : List Ct) (fr : Fr) (h : Hp) (Q : Ex → Fr → Hp → Prop)
theorem Run_look (d : Option Nat) (op : DOp) (hk : op.kind = 0) : Run C (.ops (⟨d, op, none, []⟩ :: l) :: k) .normal fr h Q = PutO C d (look op fr h) (.ops l :: k) fr h Q := by
 simp only [Run, WS_look_gen _ _ _ _ _ _ _ hk, PutO]
theorem Run_make (d : Option Nat) (op : DOp) (hk : op.kind = 1) : Run C (.ops (⟨d, op, none, []⟩ :: l) :: k) .normal fr h Q = PutA C d (make op fr h) (.ops l :: k) fr Q := by
 simp only [Run, WS_make_gen _ _ _ _ _ _ _ hk, PutA]
theorem Run_act (d : Option Nat) (op : DOp) (hk : op.kind = 2) : Run C (.ops (⟨d, op, none, []⟩ :: l) :: k) .normal fr h Q = PutA C d (act C op fr h) (.ops l :: k) fr Q := by
 simp only [Run, WS_act0 _ _ _ _ _ _ _ hk, PutA]
theorem Run_chk (d : Option Nat) (op : DOp) (hk : op.kind = 2) (c : Chk) (cs : List Chk) : Run C (.ops (⟨d, op, none, c :: cs⟩ :: l) :: k) .normal fr h Q = PutC C d (c :: cs) (act C op fr h) (.ops l :: k) fr Q := by
 simp only [Run, WS_act_gen _ _ _ _ _ _ _ hk, PutC]
theorem Run_guard (d : Option Nat) (op : DOp) (t : Nat) (want : Bool) (cs : List Chk) : Run C (.ops (⟨d, op, some (t, want), cs⟩ :: l) :: k) .normal fr h Q = Gd C (fr.get t) want ⟨d, op, none, cs⟩ (.ops l :: k) fr h Q := by
 have key : ∀ s : Step, WS C (s :: l) fr h (fun f h => Run C k .normal f h Q) = WS C [s] fr h (fun f h => WS C l f h fun f h => Run C k .normal f h Q) := by
  intro s
  rw [WS_step, WS_step]
  simp only [WS_nil]
 simp only [Run, WS_guard, Gd]
 cases guardVal (fr.get t) want with
 | none => rfl
 | some b => cases b with
  | true => exact key _
  | false => rfl
theorem Run_mv (d : Option Nat) (x : X) : Run C (.ops (⟨d, .mv x, none, []⟩ :: l) :: k) .normal fr h Q = PutV C d (x.ev fr) (.ops l :: k) fr h Q := by
 rw [Run_look _ _ _ _ _ _ _ _ rfl]; simp only [look, PutO_some]
theorem Run_pick (d : Option Nat) (c a b : X) : Run C (.ops (⟨d, .pick c a b, none, []⟩ :: l) :: k) .normal fr h Q = Pk C (c.ev fr) d a b (.ops l :: k) fr h Q := by
 rw [Run_look _ _ _ _ _ _ _ _ rfl]
 simp only [look, Pk, PutO, WO, WB, PutV]
 cases hv : c.ev fr with
 | p x =>
  cases x with
  | bool b => cases b <;> simp
  | _ => simp
 | _ => simp
end runsteps
def mask (keep : List Nat) (fr : Fr) : Fr := keep.map fun k => (k, fr.get k)
theorem W_loop {C : CallFn} {keep : List Nat} {c : DC} {Q : Ex → Fr → Hp → Prop} (I : Nat → Fr → Hp → Prop) {n : Nat} {fr : Fr} {h : Hp} (h0 : I n fr h)
 (hI : ∀ n fr h, I n fr h → W C c (mask keep fr) h (fun e f h => match e with
  | .normal => ∃ m, m < n ∧ I m f h
  | e => Q e f h)) : W C (.loop keep c) fr h Q := by
 induction n using Nat.strongRecOn generalizing fr h with
 | _ n ih =>
  obtain ⟨e, f, h1, r, q⟩ := hI n fr h h0
  cases e with
  | normal =>
   obtain ⟨m, hm, q⟩ := q
   obtain ⟨e2, f2, h2, r2, q2⟩ := ih m hm q
   exact ⟨e2, f2, h2, by simp only [exec] at r2 ⊢; exact rounds_next r r2, q2⟩
  | exit i => exact ⟨_, f, h1, by simp only [exec]; exact rounds_done (by simp) r, q⟩
  | ret => exact ⟨_, f, h1, by simp only [exec]; exact rounds_done (by simp) r, q⟩
def LoopQ (C : CallFn) (k : List Ct) (Q : Ex → Fr → Hp → Prop) (I : Nat → Fr → Hp → Prop) (n : Nat) (e : Ex) (fr : Fr) (h : Hp) : Prop := match e with
 | .normal => ∃ m, m < n ∧ I m fr h
 | e => Run C k e fr h Q
theorem LoopQ_normal (C : CallFn) (k : List Ct) (Q : Ex → Fr → Hp → Prop) (I : Nat → Fr → Hp → Prop) (n : Nat) (fr : Fr) (h : Hp) : LoopQ C k Q I n .normal fr h = ∃ m, m < n ∧ I m fr h := rfl
theorem LoopQ_exit (C : CallFn) (k : List Ct) (Q : Ex → Fr → Hp → Prop) (I : Nat → Fr → Hp → Prop) (n i : Nat) (fr : Fr) (h : Hp) : LoopQ C k Q I n (.exit i) fr h = Run C k (.exit i) fr h Q := rfl
theorem LoopQ_ret (C : CallFn) (k : List Ct) (Q : Ex → Fr → Hp → Prop) (I : Nat → Fr → Hp → Prop) (n : Nat) (fr : Fr) (h : Hp) : LoopQ C k Q I n .ret fr h = Run C k .ret fr h Q := rfl
theorem Run_loop {C : CallFn} {keep : List Nat} {c : DC} {k : List Ct} {Q : Ex → Fr → Hp → Prop} (I : Nat → Fr → Hp → Prop) {n : Nat} {fr : Fr} {h : Hp} (h0 : I n fr h)
 (hI : ∀ n fr h, I n fr h → Run C [.code c] .normal (mask keep fr) h (LoopQ C k Q I n)) : Run C (.code (.loop keep c) :: k) .normal fr h Q := by
 simp only [Run]
 refine W_loop I h0 fun n fr h hn => ?_
 have := hI n fr h hn
 simp only [Run] at this
 refine this.mono fun e f h q => ?_
 cases e <;> exact q
def JoinQ (C : CallFn) (k : List Ct) (Q : Ex → Fr → Hp → Prop) (J : Fr → Hp → Prop) (e : Ex) (fr : Fr) (h : Hp) : Prop := match e with
 | .normal => J fr h
 | e => Run C k e fr h Q
theorem JoinQ_normal (C : CallFn) (k : List Ct) (Q : Ex → Fr → Hp → Prop) (J : Fr → Hp → Prop) (fr : Fr) (h : Hp) : JoinQ C k Q J .normal fr h = J fr h := rfl
theorem JoinQ_exit (C : CallFn) (k : List Ct) (Q : Ex → Fr → Hp → Prop) (J : Fr → Hp → Prop) (i : Nat) (fr : Fr) (h : Hp) : JoinQ C k Q J (.exit i) fr h = Run C k (.exit i) fr h Q := rfl
theorem JoinQ_ret (C : CallFn) (k : List Ct) (Q : Ex → Fr → Hp → Prop) (J : Fr → Hp → Prop) (fr : Fr) (h : Hp) : JoinQ C k Q J .ret fr h = Run C k .ret fr h Q := rfl
theorem W.mono' {C : CallFn} {k : List Ct} {e : Ex} {fr : Fr} {h : Hp} {Q Q' : Ex → Fr → Hp → Prop} (hq : ∀ e f h, Q e f h → Q' e f h) (hr : Run C k e fr h Q) : Run C k e fr h Q' := by
 induction k generalizing e fr h with
 | nil => simp only [Run] at *; exact hq _ _ _ hr
 | cons x k ih =>
  cases x <;> cases e <;> simp only [Run] at *
  all_goals first
   | exact ih hr
   | exact WS.mono hr fun f h q => ih q
   | exact W.mono hr fun e f h q => ih q
   | (split at hr <;> split <;> first | exact ih hr | contradiction)
def Hp.back (h : Hp) (l : Nat) : Hp := ⟨h.objs, l⟩
def Ends (res : List Res) (R : EV → Hp → Prop) (e : Ex) (fr : Fr) (h : Hp) : Prop := (∀ i, e ≠ .exit i) ∧ ∃ vs, resultsOf fr h res = some vs ∧ R (oneEV vs) h
theorem body_W {C : CallFn} {d : DFn} {args : List EV} {h : Hp} {R : EV → Hp → Prop} (hl : args.length = d.np) (ha : d.sha = false) (hs : d.share = false) (hlo : d.loc = false) (hw : W C d.body (args0 0 args) h (Ends d.res fun v h1 => R v (h1.back h.lim))) : WA (body C d args h) R := by
 obtain ⟨e, fr, h', r, hne, vs, hv, q⟩ := hw
 refine ⟨oneEV vs, ⟨h'.objs, h.lim⟩, ?_, q⟩
 simp only [body, shareArgs, ha, body0, hl, if_true, hlo, hs, Bool.false_eq_true, if_false, Bool.false_eq_true, if_false, r]
 cases e with
 | exit i => exact absurd rfl (hne i)
 | normal => simp [hv]
 | ret => simp [hv]
theorem body_loc {C : CallFn} {d : DFn} {args : List EV} {h : Hp} {v : EV} (hl : args.length = d.np) (ha : d.sha = false) (hs : d.share = false) (hlo : d.loc = true) (hv : EV.under h.objs.length v = true) (hw : W C d.body (args0 0 args) { h with lim := h.objs.length } (Ends d.res fun u _ => u = v)) : body C d args h = some (v, h) := by
 obtain ⟨e, fr, h', r, hne, vs, hvs, q⟩ := hw
 subst q
 simp only [body, shareArgs, ha, body0, hl, if_true, hlo, hs, Bool.false_eq_true, if_false, Bool.false_eq_true, if_false, r]
 cases e with
 | exit i => exact absurd rfl (hne i)
 | normal => simp [hvs, hv]
 | ret => simp [hvs, hv]
def EndsS (res : List Res) (R : EV → Hp → Prop) (e : Ex) (fr : Fr) (h : Hp) : Prop := (∀ i, e ≠ .exit i) ∧ ∃ vs, resultsOf fr h res = some vs ∧ ∃ us os, shareVs h.lim vs h.objs = some (us, os) ∧ R (oneEV us) ⟨os, h.lim⟩
theorem body_locS {C : CallFn} {d : DFn} {args : List EV} {h : Hp} {v : EV} (hl : args.length = d.np) (ha : d.sha = false) (hs : d.share = true) (hlo : d.loc = true) (hv : EV.under h.objs.length v = true) (hw : W C d.body (args0 0 args) { h with lim := h.objs.length } (EndsS d.res fun u _ => u = v)) : body C d args h = some (v, h) := by
 obtain ⟨e, fr, h', r, hne, vs, hvs, us, os, q1, q2⟩ := hw
 subst q2
 simp only [body, shareArgs, ha, body0, hl, if_true, hlo, hs, Bool.false_eq_true, if_false, r]
 cases e with
 | exit i => exact absurd rfl (hne i)
 | normal => simp [hvs, q1, hv]
 | ret => simp [hvs, q1, hv]
/- Memory, as it is read. -/
theorem Hp.arr_set (h : Hp) (k : Nat) (a : Arr) (id g : Nat) : (h.setArr k a).arr id g = if id = k then (if k < h.objs.length ∧ a.gen = g then some a else none) else h.arr id g := by
 unfold Hp.arr Hp.setArr
 by_cases e : id = k
 · subst e
   by_cases hl : id < h.objs.length
   · simp [hl]
   · simp [hl]
 · simp [e, List.getElem?_set_ne (Ne.symm e)]
theorem Hp.arr_new (h : Hp) (o : Obj) (id g : Nat) : (h.new o).arr id g = if id = h.objs.length then (match o with | .cells a => if a.gen = g then some a else none | _ => none) else h.arr id g := by
 unfold Hp.arr Hp.new
 by_cases e : id = h.objs.length
 · subst e
   simp
   cases o <;> simp
 · rcases Nat.lt_or_ge id h.objs.length with q | q
   · simp [e, List.getElem?_append_left q]
   · have : h.objs.length < id := by omega
     have h1 : (h.objs ++ [o])[id]? = none := by simp; omega
     have h2 : h.objs[id]? = none := by simp; omega
     simp [e, h2, h1]
@[simp] theorem Hp.len_set (h : Hp) (k : Nat) (a : Arr) : (h.setArr k a).objs.length = h.objs.length := by simp [Hp.setArr]
@[simp] theorem Hp.len_new (h : Hp) (o : Obj) : (h.new o).objs.length = h.objs.length + 1 := by simp [Hp.new]
@[simp] theorem Hp.lim_set (h : Hp) (k : Nat) (a : Arr) : (h.setArr k a).lim = h.lim := rfl
@[simp] theorem Hp.lim_new (h : Hp) (o : Obj) : (h.new o).lim = h.lim := rfl
@[simp] theorem Hp.back_set (h : Hp) (k : Nat) (a : Arr) (l : Nat) : (h.setArr k a).back l = (h.back l).setArr k a := rfl
@[simp] theorem Hp.back_new (h : Hp) (o : Obj) (l : Nat) : (h.new o).back l = (h.back l).new o := rfl
@[simp] theorem Hp.back_self (h : Hp) : h.back h.lim = h := rfl
@[simp] theorem Hp.back_lim (h : Hp) (l : Nat) : (h.back l).lim = l := rfl
@[simp] theorem Hp.back_objs (h : Hp) (l : Nat) : (h.back l).objs = h.objs := rfl
theorem Hp.back_of {h : Hp} {l : Nat} (e : h.lim = l) : h.back l = h := by subst e; rfl
theorem get_cons (j k : Nat) (v : EV) (r : Fr) : Fr.get ((j, v) :: r) k = if j = k then v else Fr.get r k := rfl
theorem get_nil (k : Nat) : Fr.get [] k = .junk := rfl
end Dk
namespace Dk
open Go
attribute [simp] WO_some WA_some WH_some Nat.add_assoc
attribute [simp] Run_nil Run_ops_nil Run_block Run_exit_same Run_exit_block Run_exit_ops Run_exit_code Run_ret_ops Run_ret_code Run_ret_block Run_skip Run_exit Run_ret Run_ops Run_seq Run_bl Run_cond Br_true Br_false Br_not Pk_true Pk_false Pk_not Gd_tt Gd_ff Gd_tf Gd_ft Gd_un Gd_not PutV_some PutV_none PutO_some PutA_some PutC_some Chks_nil Chks_cons Run_guard Run_mv Run_pick LoopQ_normal LoopQ_exit LoopQ_ret JoinQ_normal JoinQ_exit JoinQ_ret
attribute [simp] get_cons get_nil Hp.arr_set Hp.arr_new
@[simp] theorem ev_t (n : Nat) (fr : Fr) : X.ev fr (.t n) = fr.get n := rfl
@[simp] theorem ev_v (e : EV) (fr : Fr) : X.ev fr (.v e) = e := rfl
@[simp] theorem evs_nil (fr : Fr) : evs fr [] = [] := rfl
@[simp] theorem evs_cons (fr : Fr) (x : X) (l : List X) : evs fr (x :: l) = x.ev fr :: evs fr l := rfl
@[simp] theorem put_some (fr : Fr) (d : Nat) (v : EV) : fr.put (some d) v = (d, v) :: fr := rfl
@[simp] theorem put_none (fr : Fr) (v : EV) : fr.put none v = fr := rfl
@[simp] theorem mask_nil (fr : Fr) : mask [] fr = [] := rfl
@[simp] theorem mask_cons (fr : Fr) (k : Nat) (r : List Nat) : mask (k :: r) fr = (k, fr.get k) :: mask r fr := rfl
@[simp] theorem args0_nil (k : Nat) : args0 k [] = [] := rfl
@[simp] theorem args0_cons (k : Nat) (v : EV) (r : List EV) : args0 k (v :: r) = (k, v) :: args0 (k + 1) r := rfl
@[simp] theorem results_nil (fr : Fr) (h : Hp) : resultsOf fr h [] = some [] := rfl
@[simp] theorem results_tmp (fr : Fr) (h : Hp) (t : Nat) (l : List Res) : resultsOf fr h (.tmp t :: l) = (resultsOf fr h l).map (fr.get t :: ·) := by
 simp only [resultsOf, resultOf]; cases resultsOf fr h l <;> rfl
@[simp] theorem results_cell (fr : Fr) (h : Hp) (t n : Nat) (ag : Bool) (l : List Res) : resultsOf fr h (.cell t ag n :: l) = (loadAt ag n (fr.get t) h).bind fun v => (resultsOf fr h l).map (v :: ·) := by
 simp only [resultsOf, resultOf]; cases loadAt ag n (fr.get t) h <;> simp <;> cases resultsOf fr h l <;> rfl
@[simp] theorem oneEV_one (v : EV) : oneEV [v] = v := rfl
@[simp] theorem oneEV_nil : oneEV [] = .tup [] := rfl
@[simp] theorem oneEV_two (u v : EV) (l : List EV) : oneEV (u :: v :: l) = .tup (u :: v :: l) := rfl
section runops
variable (C : CallFn) (l : List Step) (k : List Ct) (fr : Fr) (h : Hp) (Q : Ex → Fr → Hp → Prop)
@[simp] theorem Run_nz (d : Option Nat) (x) : Run C (.ops (⟨d, .nz x, none, []⟩ :: l) :: k) .normal fr h Q = PutO C d (look (.nz x) fr h) (.ops l :: k) fr h Q := Run_look _ _ _ _ _ _ _ _ rfl
@[simp] theorem Run_build (d : Option Nat) (a b) : Run C (.ops (⟨d, .build a b, none, []⟩ :: l) :: k) .normal fr h Q = PutO C d (look (.build a b) fr h) (.ops l :: k) fr h Q := Run_look _ _ _ _ _ _ _ _ rfl
@[simp] theorem Run_ld (d : Option Nat) (a b c) : Run C (.ops (⟨d, .ld a b c, none, []⟩ :: l) :: k) .normal fr h Q = PutO C d (look (.ld a b c) fr h) (.ops l :: k) fr h Q := Run_look _ _ _ _ _ _ _ _ rfl
@[simp] theorem Run_bin (d : Option Nat) (a b c e) : Run C (.ops (⟨d, .bin a b c e, none, []⟩ :: l) :: k) .normal fr h Q = PutO C d (look (.bin a b c e) fr h) (.ops l :: k) fr h Q := Run_look _ _ _ _ _ _ _ _ rfl
@[simp] theorem Run_isnil (d : Option Nat) (a b) : Run C (.ops (⟨d, .isnil a b, none, []⟩ :: l) :: k) .normal fr h Q = PutO C d (look (.isnil a b) fr h) (.ops l :: k) fr h Q := Run_look _ _ _ _ _ _ _ _ rfl
@[simp] theorem Run_un (d : Option Nat) (a b) : Run C (.ops (⟨d, .un a b, none, []⟩ :: l) :: k) .normal fr h Q = PutO C d (look (.un a b) fr h) (.ops l :: k) fr h Q := Run_look _ _ _ _ _ _ _ _ rfl
@[simp] theorem Run_conv (d : Option Nat) (a b) : Run C (.ops (⟨d, .conv a b, none, []⟩ :: l) :: k) .normal fr h Q = PutO C d (look (.conv a b) fr h) (.ops l :: k) fr h Q := Run_look _ _ _ _ _ _ _ _ rfl
@[simp] theorem Run_mkf (d : Option Nat) (a b c) : Run C (.ops (⟨d, .mkf a b c, none, []⟩ :: l) :: k) .normal fr h Q = PutO C d (look (.mkf a b c) fr h) (.ops l :: k) fr h Q := Run_look _ _ _ _ _ _ _ _ rfl
@[simp] theorem Run_slc (d : Option Nat) (a b c e f) : Run C (.ops (⟨d, .slc a b c e f, none, []⟩ :: l) :: k) .normal fr h Q = PutO C d (look (.slc a b c e f) fr h) (.ops l :: k) fr h Q := Run_look _ _ _ _ _ _ _ _ rfl
@[simp] theorem Run_sls (d : Option Nat) (a b c) : Run C (.ops (⟨d, .sls a b c, none, []⟩ :: l) :: k) .normal fr h Q = PutO C d (look (.sls a b c) fr h) (.ops l :: k) fr h Q := Run_look _ _ _ _ _ _ _ _ rfl
@[simp] theorem Run_fld (d : Option Nat) (a b) : Run C (.ops (⟨d, .fld a b, none, []⟩ :: l) :: k) .normal fr h Q = PutO C d (look (.fld a b) fr h) (.ops l :: k) fr h Q := Run_look _ _ _ _ _ _ _ _ rfl
@[simp] theorem Run_fget (d : Option Nat) (a b c e) : Run C (.ops (⟨d, .fget a b c e, none, []⟩ :: l) :: k) .normal fr h Q = PutO C d (look (.fget a b c e) fr h) (.ops l :: k) fr h Q := Run_look _ _ _ _ _ _ _ _ rfl
@[simp] theorem Run_ixa (d : Option Nat) (a b c) : Run C (.ops (⟨d, .ixa a b c, none, []⟩ :: l) :: k) .normal fr h Q = PutO C d (look (.ixa a b c) fr h) (.ops l :: k) fr h Q := Run_look _ _ _ _ _ _ _ _ rfl
@[simp] theorem Run_ixp (d : Option Nat) (a b c e) : Run C (.ops (⟨d, .ixp a b c e, none, []⟩ :: l) :: k) .normal fr h Q = PutO C d (look (.ixp a b c e) fr h) (.ops l :: k) fr h Q := Run_look _ _ _ _ _ _ _ _ rfl
@[simp] theorem Run_ixs (d : Option Nat) (a b) : Run C (.ops (⟨d, .ixs a b, none, []⟩ :: l) :: k) .normal fr h Q = PutO C d (look (.ixs a b) fr h) (.ops l :: k) fr h Q := Run_look _ _ _ _ _ _ _ _ rfl
@[simp] theorem Run_ixg (d : Option Nat) (a b c e f) : Run C (.ops (⟨d, .ixg a b c e f, none, []⟩ :: l) :: k) .normal fr h Q = PutO C d (look (.ixg a b c e f) fr h) (.ops l :: k) fr h Q := Run_look _ _ _ _ _ _ _ _ rfl
@[simp] theorem Run_lookup (d : Option Nat) (a b c e f) : Run C (.ops (⟨d, .look a b c e f, none, []⟩ :: l) :: k) .normal fr h Q = PutO C d (look (.look a b c e f) fr h) (.ops l :: k) fr h Q := Run_look _ _ _ _ _ _ _ _ rfl
@[simp] theorem Run_ext (d : Option Nat) (a b) : Run C (.ops (⟨d, .ext a b, none, []⟩ :: l) :: k) .normal fr h Q = PutO C d (look (.ext a b) fr h) (.ops l :: k) fr h Q := Run_look _ _ _ _ _ _ _ _ rfl
@[simp] theorem Run_len (d : Option Nat) (a b) : Run C (.ops (⟨d, .len a b, none, []⟩ :: l) :: k) .normal fr h Q = PutO C d (look (.len a b) fr h) (.ops l :: k) fr h Q := Run_look _ _ _ _ _ _ _ _ rfl
@[simp] theorem Run_cap (d : Option Nat) (a) : Run C (.ops (⟨d, .cap a, none, []⟩ :: l) :: k) .normal fr h Q = PutO C d (look (.cap a) fr h) (.ops l :: k) fr h Q := Run_look _ _ _ _ _ _ _ _ rfl
@[simp] theorem Run_mnx (d : Option Nat) (a b c) : Run C (.ops (⟨d, .mnx a b c, none, []⟩ :: l) :: k) .normal fr h Q = PutO C d (look (.mnx a b c) fr h) (.ops l :: k) fr h Q := Run_look _ _ _ _ _ _ _ _ rfl
@[simp] theorem Run_nils (d : Option Nat) (a b) : Run C (.ops (⟨d, .nils a b, none, []⟩ :: l) :: k) .normal fr h Q = PutA C d (make (.nils a b) fr h) (.ops l :: k) fr Q := Run_make _ _ _ _ _ _ _ _ rfl
@[simp] theorem Run_new (d : Option Nat) (a b) : Run C (.ops (⟨d, .new a b, none, []⟩ :: l) :: k) .normal fr h Q = PutA C d (make (.new a b) fr h) (.ops l :: k) fr Q := Run_make _ _ _ _ _ _ _ _ rfl
@[simp] theorem Run_box (d : Option Nat) (a b c) : Run C (.ops (⟨d, .box a b c, none, []⟩ :: l) :: k) .normal fr h Q = PutA C d (make (.box a b c) fr h) (.ops l :: k) fr Q := Run_make _ _ _ _ _ _ _ _ rfl
@[simp] theorem Run_lit (d : Option Nat) (a b c e) : Run C (.ops (⟨d, .lit a b c e, none, []⟩ :: l) :: k) .normal fr h Q = PutA C d (make (.lit a b c e) fr h) (.ops l :: k) fr Q := Run_make _ _ _ _ _ _ _ _ rfl
@[simp] theorem Run_mkmap (d : Option Nat)  : Run C (.ops (⟨d, .mkmap , none, []⟩ :: l) :: k) .normal fr h Q = PutA C d (make (.mkmap ) fr h) (.ops l :: k) fr Q := Run_make _ _ _ _ _ _ _ _ rfl
@[simp] theorem Run_mks (d : Option Nat) (a b c e f g) : Run C (.ops (⟨d, .mks a b c e f g, none, []⟩ :: l) :: k) .normal fr h Q = PutA C d (make (.mks a b c e f g) fr h) (.ops l :: k) fr Q := Run_make _ _ _ _ _ _ _ _ rfl
@[simp] theorem Run_st (d : Option Nat) (a b c) : Run C (.ops (⟨d, .st a b c, none, []⟩ :: l) :: k) .normal fr h Q = PutA C d (act C (.st a b c) fr h) (.ops l :: k) fr Q := Run_act _ _ _ _ _ _ _ _ rfl
@[simp] theorem Run_stc (d : Option Nat) (a b c) (c0 cs) : Run C (.ops (⟨d, .st a b c, none, c0 :: cs⟩ :: l) :: k) .normal fr h Q = PutC C d (c0 :: cs) (act C (.st a b c) fr h) (.ops l :: k) fr Q := Run_chk _ _ _ _ _ _ _ _ rfl _ _
@[simp] theorem Run_upd (d : Option Nat) (a b c e) : Run C (.ops (⟨d, .upd a b c e, none, []⟩ :: l) :: k) .normal fr h Q = PutA C d (act C (.upd a b c e) fr h) (.ops l :: k) fr Q := Run_act _ _ _ _ _ _ _ _ rfl
@[simp] theorem Run_updc (d : Option Nat) (a b c e) (c0 cs) : Run C (.ops (⟨d, .upd a b c e, none, c0 :: cs⟩ :: l) :: k) .normal fr h Q = PutC C d (c0 :: cs) (act C (.upd a b c e) fr h) (.ops l :: k) fr Q := Run_chk _ _ _ _ _ _ _ _ rfl _ _
@[simp] theorem Run_del (d : Option Nat) (a b c) : Run C (.ops (⟨d, .del a b c, none, []⟩ :: l) :: k) .normal fr h Q = PutA C d (act C (.del a b c) fr h) (.ops l :: k) fr Q := Run_act _ _ _ _ _ _ _ _ rfl
@[simp] theorem Run_delc (d : Option Nat) (a b c) (c0 cs) : Run C (.ops (⟨d, .del a b c, none, c0 :: cs⟩ :: l) :: k) .normal fr h Q = PutC C d (c0 :: cs) (act C (.del a b c) fr h) (.ops l :: k) fr Q := Run_chk _ _ _ _ _ _ _ _ rfl _ _
@[simp] theorem Run_app (d : Option Nat) (a b c e f) : Run C (.ops (⟨d, .app a b c e f, none, []⟩ :: l) :: k) .normal fr h Q = PutA C d (act C (.app a b c e f) fr h) (.ops l :: k) fr Q := Run_act _ _ _ _ _ _ _ _ rfl
@[simp] theorem Run_appc (d : Option Nat) (a b c e f) (c0 cs) : Run C (.ops (⟨d, .app a b c e f, none, c0 :: cs⟩ :: l) :: k) .normal fr h Q = PutC C d (c0 :: cs) (act C (.app a b c e f) fr h) (.ops l :: k) fr Q := Run_chk _ _ _ _ _ _ _ _ rfl _ _
@[simp] theorem Run_callv (d : Option Nat) (a b) : Run C (.ops (⟨d, .callv a b, none, []⟩ :: l) :: k) .normal fr h Q = PutA C d (act C (.callv a b) fr h) (.ops l :: k) fr Q := Run_act _ _ _ _ _ _ _ _ rfl
@[simp] theorem Run_callvc (d : Option Nat) (a b) (c0 cs) : Run C (.ops (⟨d, .callv a b, none, c0 :: cs⟩ :: l) :: k) .normal fr h Q = PutC C d (c0 :: cs) (act C (.callv a b) fr h) (.ops l :: k) fr Q := Run_chk _ _ _ _ _ _ _ _ rfl _ _
@[simp] theorem Run_may (d : Option Nat) (a b) : Run C (.ops (⟨d, .may a b, none, []⟩ :: l) :: k) .normal fr h Q = PutA C d (act C (.may a b) fr h) (.ops l :: k) fr Q := Run_act _ _ _ _ _ _ _ _ rfl
@[simp] theorem Run_nbld (d : Option Nat) : Run C (.ops (⟨d, .nbld, none, []⟩ :: l) :: k) .normal fr h Q = PutA C d (make .nbld fr h) (.ops l :: k) fr Q := Run_make _ _ _ _ _ _ _ _ rfl
@[simp] theorem Run_bwr (d : Option Nat) (a b) : Run C (.ops (⟨d, .bwr a b, none, []⟩ :: l) :: k) .normal fr h Q = PutA C d (act C (.bwr a b) fr h) (.ops l :: k) fr Q := Run_act _ _ _ _ _ _ _ _ rfl
@[simp] theorem Run_bstr (d : Option Nat) (a) : Run C (.ops (⟨d, .bstr a, none, []⟩ :: l) :: k) .normal fr h Q = PutA C d (act C (.bstr a) fr h) (.ops l :: k) fr Q := Run_act _ _ _ _ _ _ _ _ rfl
@[simp] theorem Run_mnth (d : Option Nat) (a b) : Run C (.ops (⟨d, .mnth a b, none, []⟩ :: l) :: k) .normal fr h Q = PutA C d (act C (.mnth a b) fr h) (.ops l :: k) fr Q := Run_act _ _ _ _ _ _ _ _ rfl
@[simp] theorem Run_byts (d : Option Nat) (a) : Run C (.ops (⟨d, .byts a, none, []⟩ :: l) :: k) .normal fr h Q = PutA C d (act C (.byts a) fr h) (.ops l :: k) fr Q := Run_act _ _ _ _ _ _ _ _ rfl
@[simp] theorem Run_strb (d : Option Nat) (a) : Run C (.ops (⟨d, .strb a, none, []⟩ :: l) :: k) .normal fr h Q = PutA C d (act C (.strb a) fr h) (.ops l :: k) fr Q := Run_act _ _ _ _ _ _ _ _ rfl
@[simp] theorem Run_call (d : Option Nat) (f : Nat) (args : List X) : Run C (.ops (⟨d, .call f args, none, []⟩ :: l) :: k) .normal fr h Q = PutA C d (C f (evs fr args) h) (.ops l :: k) fr Q := Run_act _ _ _ _ _ _ _ _ rfl
@[simp] theorem Run_callc (d : Option Nat) (f : Nat) (args : List X) (c0 cs) : Run C (.ops (⟨d, .call f args, none, c0 :: cs⟩ :: l) :: k) .normal fr h Q = PutC C d (c0 :: cs) (C f (evs fr args) h) (.ops l :: k) fr Q := Run_chk _ _ _ _ _ _ _ _ rfl _ _
end runops
section looks
variable (fr : Fr) (h : Hp)
@[simp] theorem look_nz (x : X) : look (.nz x) fr h = (match x.ev fr with
 | .ptr id g i o => some (.ptr id g i o)
 | .cp cs o => some (.cp cs o)
 | .fn (.func f) a b => some (.fn (.func f) a b)
 | _ => none) := rfl
@[simp] theorem look_build (zs : List EV) (ps) : look (.build zs ps) fr h = (lay zs (ps.map fun (o, n, x) => (o, n, x.ev fr))).map .agg := rfl
@[simp] theorem look_ld (ag : Bool) (n : Nat) (x : X) : look (.ld ag n x) fr h = loadAt ag n (x.ev fr) h := rfl
@[simp] theorem look_bin (op ek) (x y : X) : look (.bin op ek x y) fr h = binOp op ek (x.ev fr) (y.ev fr) := rfl
@[simp] theorem look_isnil (ne : Bool) (x : X) : look (.isnil ne x) fr h = if someIn (x.ev fr) then some (.p (.bool ne)) else none := rfl
@[simp] theorem look_un (op) (x : X) : look (.un op x) fr h = unOp op (x.ev fr) := rfl
@[simp] theorem look_mkf (f a b) : look (.mkf f a b) fr h = some (.fn f (evs fr a) (evs fr b)) := rfl
@[simp] theorem look_fld (off : Nat) (x : X) : look (.fld off x) fr h = fldAt off (x.ev fr) := rfl
@[simp] theorem look_fget (off n : Nat) (ag : Bool) (x : X) : look (.fget off n ag x) fr h = fgetAt off n ag (x.ev fr) := rfl
@[simp] theorem look_ixa (sz : Nat) (x i : X) : look (.ixa sz x i) fr h = indexAddr sz (x.ev fr) (i.ev fr) := rfl
@[simp] theorem look_ixp (n sz : Nat) (x i : X) : look (.ixp n sz x i) fr h = ixpAt n sz (x.ev fr) (i.ev fr) := rfl
@[simp] theorem look_ext (x : X) (i : Nat) : look (.ext x i) fr h = (match x.ev fr with
 | .tup vs => vs[i]?
 | _ => none) := rfl
@[simp] theorem look_len (kd : Nat) (x : X) : look (.len kd x) fr h = (lenOf kd (x.ev fr) h).map fun n => .p (.int .i64 n) := by simp only [look]; cases lenOf kd (x.ev fr) h <;> rfl
@[simp] theorem look_mnx (m : Bool) (x y : X) : look (.mnx m x y) fr h = (match x.ev fr, y.ev fr with
 | .p (.int k a), .p (.int _ b) => some (.p (.int k (if m then (if b > a then b else a) else (if b < a then b else a))))
 | _, _ => none) := rfl
@[simp] theorem look_slc (sz : Nat) (x : X) (lo hi mx : Option X) : look (.slc sz x lo hi mx) fr h = sliceOf sz (x.ev fr) (lo.map (X.ev fr)) (hi.map (X.ev fr)) (mx.map (X.ev fr)) := rfl
@[simp] theorem look_sls (x : X) (lo hi : Option X) : look (.sls x lo hi) fr h = sliceStr (x.ev fr) (lo.map (X.ev fr)) (hi.map (X.ev fr)) := rfl
@[simp] theorem look_conv (k : IntKind) (x : X) : look (.conv k x) fr h = (match x.ev fr with
 | .p (.int _ n) => some (.p (.int k (k.wrap n)))
 | _ => none) := rfl
@[simp] theorem look_ixs (x i : X) : look (.ixs x i) fr h = (match x.ev fr with
 | .p (.str s) => match idx (i.ev fr) s.size with
  | some k => match s[k]? with
   | some b => some (.p (.int .u8 b.toNat))
   | none => none
  | none => none
 | _ => none) := rfl
@[simp] theorem look_ixg (n sz : Nat) (ag : Bool) (x i : X) : look (.ixg n sz ag x i) fr h = (match idx (i.ev fr) n, x.ev fr with
 | some k, .agg cs => if k * sz + sz ≤ cs.length then mk ag ((cs.drop (k * sz)).take sz) else none
 | _, _ => none) := rfl
@[simp] theorem look_map (ck z ok) (m k : X) : look (.look ck z ok m k) fr h = (match mapGet ck z (m.ev fr) (k.ev fr) h with
 | some (v, b) => some (if ok then .tup [v, .p (.bool b)] else v)
 | none => none) := rfl
@[simp] theorem look_cap (x : X) : look (.cap x) fr h = (match x.ev fr with
 | .full xs => some (.p (.int .i64 xs.length))
 | _ => none) := rfl
end looks
section makes
variable (fr : Fr) (h : Hp)
@[simp] theorem make_nils (sz : Nat) (ag : Bool) : make (.nils sz ag) fr h = some (.arr h.objs.length 0 sz 0 0 false, h.new (.cells ⟨0, sz, ag, 0, []⟩)) := rfl
@[simp] theorem make_new (ag : Bool) (zs : List EV) : make (.new ag zs) fr h = some (.ptr h.objs.length 0 0 0, h.new (.cells ⟨0, zs.length, ag, 0, [zs]⟩)) := rfl
@[simp] theorem make_box (ag : Bool) (n : Nat) (x : X) : make (.box ag n x) fr h = (if (x.ev fr).cells.length = n ∧ ones (x.ev fr).cells = true then some (.ptr h.objs.length 0 0 0, h.new (.cells ⟨0, n, ag, 0, [(x.ev fr).cells]⟩)) else none) := by
 simp only [make, makeObj]; by_cases hc : (x.ev fr).cells.length = n ∧ ones (x.ev fr).cells = true <;> simp [hc]
@[simp] theorem make_lit (sz : Nat) (ag : Bool) (els ps) : make (.lit sz ag els ps) fr h = (layEls sz els (ps.map fun (i, x) => (i, x.ev fr))).map fun els => (.arr h.objs.length 0 sz 0 els.length true, h.new (.cells ⟨0, sz, ag, 0, els⟩)) := by
 simp only [make, makeObj]; cases layEls sz els (ps.map fun (i, x) => (i, x.ev fr)) <;> rfl
@[simp] theorem make_nbld : make .nbld fr h = some (.bld h.objs.length, h.new (.bld (some .empty))) := rfl
@[simp] theorem make_mkmap : make .mkmap fr h = some (.map h.objs.length, h.new (.map [])) := rfl
@[simp] theorem make_mks (sz : Nat) (ag : Bool) (b : Nat) (z : List EV) (l c : X) : make (.mks sz ag b z l c) fr h = (match l.ev fr, c.ev fr with
 | .p (.int .i64 n), .p (.int .i64 c) => if 0 ≤ n ∧ n ≤ c ∧ c * b ≤ 140737488355328 ∧ c < 9223372036854775808 then
  some (.arr h.objs.length 0 sz 0 n.toNat false, h.new (.cells ⟨0, sz, ag, 0, List.replicate n.toNat z⟩)) else none
 | _, _ => none) := by
 simp only [make, makeObj]
 split
 · rename_i f o hm
   split at hm
   · rename_i n c' hn hc
     simp only [hn, hc]
     split at hm
     · rename_i hcond
       cases hm
       rw [if_pos hcond]
     · cases hm
   · cases hm
 · rename_i hm
   split at hm
   · rename_i n c' hn hc
     simp only [hn, hc]
     split at hm
     · cases hm
     · rename_i hcond
       rw [if_neg hcond]
   · rename_i hno
     split
     · rename_i n c' hn hc
       exact (hno n c' hn hc).elim
     · rfl
end makes
section acts
variable (C : CallFn) (fr : Fr) (h : Hp)
@[simp] theorem act_st (n : Nat) (x v : X) : act C (.st n x v) fr h = (storeAt n (x.ev fr) (v.ev fr) h).map fun h' => (.junk, h') := rfl
@[simp] theorem act_upd (ck) (m k v : X) : act C (.upd ck m k v) fr h = (mapSet ck (m.ev fr) (k.ev fr) (v.ev fr) h).map fun h' => (.junk, h') := rfl
@[simp] theorem act_del (ck) (m k : X) : act C (.del ck m k) fr h = (mapDel ck (m.ev fr) (k.ev fr) h).map fun h' => (.tup [], h') := rfl
@[simp] theorem act_app (sz : Nat) (ag : Bool) (b : Nat) (s x : X) : act C (.app sz ag b s x) fr h = appendTo sz ag b (s.ev fr) (x.ev fr) h := rfl
@[simp] theorem act_callv (x : X) (args : List X) : act C (.callv x args) fr h = (match x.ev fr with
 | .fn (.func f) a b => C f (a ++ evs fr args ++ b) h
 | .yld id => C yieldNo (rndVs id (evs fr args)) h
 | _ => none) := rfl
@[simp] theorem act_may (x : X) (args : List X) : act C (.may x args) fr h = (match x.ev fr with
 | .fn (.func f) a b => C (mayNo + f) (a ++ evs fr args ++ b ++ [pagm]) h
 | _ => none) := rfl
@[simp] theorem act_bwr (x s : X) : act C (.bwr x s) fr h = bwrite (x.ev fr) (s.ev fr) h := rfl
@[simp] theorem act_bstr (x : X) : act C (.bstr x) fr h = btext (x.ev fr) h := rfl
@[simp] theorem act_mnth (m i : X) : act C (.mnth m i) fr h = (match mapNth (m.ev fr) (i.ev fr) h with
 | some v => some (v, h)
 | none => none) := rfl
@[simp] theorem act_strb (x : X) : act C (.strb x) fr h = (match textOf (x.ev fr) h with
 | some s => some (.p (.str s), h)
 | none => none) := rfl
@[simp] theorem act_byts (x : X) : act C (.byts x) fr h = (match x.ev fr with
 | .p (.str s) => some (.p (.list (bytesOf s)), h)
 | _ => none) := rfl
end acts
section bins
variable (ek : EK) (k : IntKind) (a b : Int) (x y : Bool) (s t : ByteArray)
@[simp] theorem bin_add : binOp .add ek (.p (.int k a)) (.p (.int k b)) = some (.p (.int k (k.wrap (a + b)))) := by simp [binOp, intBin]
@[simp] theorem bin_sub : binOp .sub ek (.p (.int k a)) (.p (.int k b)) = some (.p (.int k (k.wrap (a - b)))) := by simp [binOp, intBin]
@[simp] theorem bin_mul : binOp .mul ek (.p (.int k a)) (.p (.int k b)) = some (.p (.int k (k.wrap (a * b)))) := by simp [binOp, intBin]
@[simp] theorem bin_rem (hb : b ≠ 0) : binOp .rem ek (.p (.int k a)) (.p (.int k b)) = some (.p (.int k (a.tmod b))) := by simp [binOp, intBin, hb]
@[simp] theorem bin_quo (hb : b ≠ 0) : binOp .quo ek (.p (.int k a)) (.p (.int k b)) = some (.p (.int k (k.wrap (a.tdiv b)))) := by simp [binOp, intBin, hb]
@[simp] theorem bin_eql : binOp .eql ek (.p (.int k a)) (.p (.int k b)) = some (.p (.bool (decide (a = b)))) := by by_cases h : a = b <;> simp [binOp, intBin, h]
@[simp] theorem bin_neq : binOp .neq ek (.p (.int k a)) (.p (.int k b)) = some (.p (.bool (!decide (a = b)))) := by by_cases h : a = b <;> simp [binOp, intBin, bne, h]
@[simp] theorem bin_lss : binOp .lss ek (.p (.int k a)) (.p (.int k b)) = some (.p (.bool (decide (a < b)))) := by simp [binOp, intBin]
@[simp] theorem bin_leq : binOp .leq ek (.p (.int k a)) (.p (.int k b)) = some (.p (.bool (decide (a ≤ b)))) := by simp [binOp, intBin]
@[simp] theorem bin_gtr : binOp .gtr ek (.p (.int k a)) (.p (.int k b)) = some (.p (.bool (decide (b < a)))) := by simp [binOp, intBin]
@[simp] theorem bin_geq : binOp .geq ek (.p (.int k a)) (.p (.int k b)) = some (.p (.bool (decide (b ≤ a)))) := by simp [binOp, intBin]
@[simp] theorem bin_eql_bool : binOp .eql .bool (.p (.bool x)) (.p (.bool y)) = some (.p (.bool (x == y))) := by simp [binOp, evEq]
@[simp] theorem bin_neq_bool : binOp .neq .bool (.p (.bool x)) (.p (.bool y)) = some (.p (.bool (!(x == y)))) := by simp [binOp, evEq]
@[simp] theorem bin_eql_agg (ks : List CK) (cs ds : List EV) : binOp .eql (.cells ks) (.agg cs) (.agg ds) = (cellsEq ks cs ds).map fun b => .p (.bool b) := by simp [binOp, evEq]
@[simp] theorem bin_neq_agg (ks : List CK) (cs ds : List EV) : binOp .neq (.cells ks) (.agg cs) (.agg ds) = (cellsEq ks cs ds).map fun b => .p (.bool (!b)) := by simp [binOp, evEq]
@[simp] theorem bin_eql_ptr1 : binOp .eql .ptr .nilp .nilp = some (.p (.bool true)) := by simp [binOp, evEq]
@[simp] theorem bin_neq_ptr1 : binOp .neq .ptr .nilp .nilp = some (.p (.bool false)) := by simp [binOp, evEq]
@[simp] theorem bin_eql_ptr2 (i g j o : Nat) : binOp .eql .ptr (.ptr i g j o) .nilp = some (.p (.bool false)) := by simp [binOp, evEq]
@[simp] theorem bin_neq_ptr2 (i g j o : Nat) : binOp .neq .ptr (.ptr i g j o) .nilp = some (.p (.bool true)) := by simp [binOp, evEq]
@[simp] theorem bin_eql_ptr3 (i g j o : Nat) : binOp .eql .ptr .nilp (.ptr i g j o) = some (.p (.bool false)) := by simp [binOp, evEq]
@[simp] theorem bin_neq_ptr3 (i g j o : Nat) : binOp .neq .ptr .nilp (.ptr i g j o) = some (.p (.bool true)) := by simp [binOp, evEq]
@[simp] theorem un_not : unOp .not (.p (.bool x)) = some (.p (.bool (!x))) := rfl
@[simp] theorem un_neg : unOp .neg (.p (.int k a)) = some (.p (.int k (k.wrap (0 - a)))) := rfl
end bins
@[simp] theorem cellsEq_nil0 : cellsEq [] [] [] = some true := rfl
@[simp] theorem cellsEq_int (ks : List CK) (k : IntKind) (a b : Int) (r s : List EV) : cellsEq (.int :: ks) (.p (.int k a) :: r) (.p (.int k b) :: s) = (cellsEq ks r s).map fun y => decide (a = b) && y := by
 by_cases h : a = b <;> simp only [cellsEq, cellEq, if_true, h] <;> cases cellsEq ks r s <;> simp [h]
@[simp] theorem cellsEq_bool (ks : List CK) (a b : Bool) (r s : List EV) : cellsEq (.bool :: ks) (.p (.bool a) :: r) (.p (.bool b) :: s) = (cellsEq ks r s).map fun y => (a == b) && y := by
 simp only [cellsEq, cellEq]; cases cellsEq ks r s <;> simp
theorem wrap64 {x : Int} (h1 : -9223372036854775808 ≤ x) (h2 : x < 9223372036854775808) : IntKind.wrap .i64 x = x := by
 simp [IntKind.wrap, IntKind.signed, IntKind.bits]
 omega
@[simp] theorem fldAt_ptr (off id g i o : Nat) : fldAt off (.ptr id g i o) = some (.ptr id g i (o + off)) := rfl
@[simp] theorem fldAt_cp (off o : Nat) (cs : List PD) : fldAt off (.cp cs o) = some (.cp cs (o + off)) := rfl
@[simp] theorem fgetAt_agg (off n : Nat) (ag : Bool) (cs : List EV) : fgetAt off n ag (.agg cs) = if off + n ≤ cs.length then mk ag ((cs.drop off).take n) else none := rfl
@[simp] theorem loadAt_ptr (ag : Bool) (n id g i o : Nat) (h : Hp) : loadAt ag n (.ptr id g i o) h = (match h.arr id g with
 | some a => match a.els[i]? with
  | some el => if o + n ≤ el.length then mk ag ((el.drop o).take n) else none
  | none => none
 | none => none) := rfl
@[simp] theorem loadAt_cp (ag : Bool) (n o : Nat) (cs : List PD) (h : Hp) : loadAt ag n (.cp cs o) h = if o + n ≤ cs.length then mk ag (((cs.drop o).take n).map .p) else none := rfl
@[simp] theorem storeAt_ptr (n id g i o : Nat) (v : EV) (h : Hp) : storeAt n (.ptr id g i o) v h = (match h.arr id g with
 | some a => match a.els[i]? with
  | some el =>
   if o + n ≤ el.length ∧ v.cells.length = n ∧ a.frz ≤ i ∧ ones v.cells = true ∧ h.lim ≤ id then
    some (h.setArr id { a with els := a.els.set i (el.take o ++ v.cells ++ el.drop (o + n)) })
   else none
  | none => none
 | none => none) := rfl
@[simp] theorem cells_p (x : PD) : EV.cells (.p x) = [.p x] := rfl
@[simp] theorem cells_agg (cs : List EV) : EV.cells (.agg cs) = cs := rfl
@[simp] theorem cells_ptr (a b c d : Nat) : EV.cells (.ptr a b c d) = [.ptr a b c d] := rfl
@[simp] theorem cells_arr (a b c d e : Nat) (f : Bool) : EV.cells (.arr a b c d e f) = [.arr a b c d e f] := rfl
@[simp] theorem cells_nilp : EV.cells .nilp = [.nilp] := rfl
@[simp] theorem cells_full (xs : List PD) : EV.cells (.full xs) = [.full xs] := rfl
@[simp] theorem cells_map (a : Nat) : EV.cells (.map a) = [.map a] := rfl
@[simp] theorem cells_nilmap : EV.cells .nilmap = [.nilmap] := rfl
@[simp] theorem cells_fn (f : Fn) (a b : List EV) : EV.cells (.fn f a b) = [.fn f a b] := rfl
@[simp] theorem cells_nilf : EV.cells .nilf = [.nilf] := rfl
@[simp] theorem mk_true (cs : List EV) : mk true cs = some (.agg cs) := rfl
@[simp] theorem mk_one (c : EV) : mk false [c] = some c := rfl
@[simp] theorem ones_nil : ones [] = true := rfl
@[simp] theorem ones_cons (v : EV) (l : List EV) : ones (v :: l) = (v.one && ones l) := rfl
@[simp] theorem one_p (x : PD) : EV.one (.p x) = true := rfl
@[simp] theorem one_ptr (a b c d : Nat) : EV.one (.ptr a b c d) = true := rfl
@[simp] theorem one_arr (a b c d e : Nat) (f : Bool) : EV.one (.arr a b c d e f) = true := rfl
@[simp] theorem one_nilp : EV.one .nilp = true := rfl
@[simp] theorem one_full (xs : List PD) : EV.one (.full xs) = true := rfl
@[simp] theorem one_map (a : Nat) : EV.one (.map a) = true := rfl
@[simp] theorem one_nilmap : EV.one .nilmap = true := rfl
@[simp] theorem one_fn (f : Fn) (a b : List EV) : EV.one (.fn f a b) = true := rfl
@[simp] theorem one_nilf : EV.one .nilf = true := rfl
@[simp] theorem lay_nil (cs : List EV) : lay cs [] = some cs := rfl
@[simp] theorem lay_cons (cs : List EV) (off n : Nat) (v : EV) (r) : lay cs ((off, n, v) :: r) = if v.cells.length = n ∧ off + n ≤ cs.length ∧ ones v.cells = true then lay (cs.take off ++ v.cells ++ cs.drop (off + n)) r else none := rfl
@[simp] theorem layEls_nil (sz : Nat) (els) : layEls sz els [] = some els := rfl
@[simp] theorem layEls_cons (sz : Nat) (els) (i : Nat) (v : EV) (r) : layEls sz els ((i, v) :: r) = if v.cells.length = sz ∧ i < els.length ∧ ones v.cells = true then layEls sz (els.set i v.cells) r else none := rfl
@[simp] theorem lenOf_list (xs : List PD) (h : Hp) : lenOf 0 (.p (.list xs)) h = some xs.length := rfl
@[simp] theorem lenOf_full (xs : List PD) (h : Hp) : lenOf 0 (.full xs) h = some xs.length := rfl
@[simp] theorem lenOf_arr (a b c d e : Nat) (f : Bool) (h : Hp) : lenOf 0 (.arr a b c d e f) h = some e := rfl
@[simp] theorem lenOf_str (s : ByteArray) (h : Hp) : lenOf 1 (.p (.str s)) h = some s.size := rfl
@[simp] theorem lenOf_nilmap (h : Hp) : lenOf 2 .nilmap h = some 0 := rfl
@[simp] theorem lenOf_map (id : Nat) (h : Hp) : lenOf 2 (.map id) h = (match h.mapOf id with
 | some es => some es.length
 | none => none) := rfl
@[simp] theorem indexAddr_arr (sz id g s off len : Nat) (f : Bool) (i : EV) : indexAddr sz (.arr id g s off len f) i = if s = sz then match idx i len with
 | some k => some (.ptr id g (off + k) 0)
 | none => none
 else none := rfl
@[simp] theorem indexAddr_list (sz : Nat) (xs : List PD) (i : EV) : indexAddr sz (.p (.list xs)) i = (match idx i xs.length with
 | some k => match xs[k]? with
  | some e => if e.cells.length = sz then some (.cp e.cells 0) else none
  | none => none
 | none => none) := rfl
@[simp] theorem pcells_int (k : IntKind) (n : Int) : PD.cells (.int k n) = [.int k n] := rfl
@[simp] theorem pcells_bool (b : Bool) : PD.cells (.bool b) = [.bool b] := rfl
@[simp] theorem pcells_str (s : ByteArray) : PD.cells (.str s) = [.str s] := rfl
@[simp] theorem pcells_list (l : List PD) : PD.cells (.list l) = [.list l] := rfl
@[simp] theorem pcells_agg (l : List PD) : PD.cells (.agg l) = l := rfl
@[simp] theorem idx_nat {k : IntKind} {i n : Nat} : idx (.p (.int k (i : Int))) n = if i < n then some i else none := by simp [idx]
@[simp] theorem under_p (n : Nat) (x : PD) : EV.under n (.p x) = true := rfl
@[simp] theorem under_agg (n : Nat) (x : List EV) : EV.under n (.agg x) = EV.unders n x := by simp only [EV.under]
@[simp] theorem under_tup (n : Nat) (x : List EV) : EV.under n (.tup x) = EV.unders n x := by simp only [EV.under]
@[simp] theorem unders_nil (n : Nat) : EV.unders n [] = true := by simp only [EV.unders]
@[simp] theorem unders_cons (n : Nat) (x : EV) (l : List EV) : EV.unders n (x :: l) = (EV.under n x && EV.unders n l) := by simp only [EV.unders]
@[simp] theorem still_none (fr : Fr) (u v : EV) : stillOne fr none (some u) v = (u = v ∧ EV.eqb v v = true) := by
 simp [stillOne]
@[simp] theorem guard_bool (b want : Bool) : guardVal (.p (.bool b)) want = some (b == want) := rfl
@[simp] theorem guard_un (want : Bool) : guardVal (.tup []) want = some false := rfl
@[simp] theorem still_guard (fr : Fr) (g : Nat) (want : Bool) (o : Option EV) (v : EV) : stillOne fr (some (g, want)) o v = ((match guardVal (fr.get g) want with
        | some b => !b
        | none => false) = true ∨ o = some v ∧ EV.eqb v v = true) := rfl
@[simp] theorem eqb_p (x y : PD) : EV.eqb (.p x) (.p y) = PD.eqb x y := by simp only [EV.eqb]
@[simp] theorem eqb_agg (x y : List EV) : EV.eqb (.agg x) (.agg y) = EV.eqbs x y := by simp only [EV.eqb]
@[simp] theorem eqb_tup (x y : List EV) : EV.eqb (.tup x) (.tup y) = EV.eqbs x y := by simp only [EV.eqb]
@[simp] theorem eqb_full (x y : List PD) : EV.eqb (.full x) (.full y) = PD.eqbs x y := by simp only [EV.eqb]
@[simp] theorem eqb_ptr (a b c d : Nat) : EV.eqb (.ptr a b c d) (.ptr a b c d) = true := by simp [EV.eqb]
@[simp] theorem eqb_arr (a b c d e : Nat) (f : Bool) : EV.eqb (.arr a b c d e f) (.arr a b c d e f) = true := by simp [EV.eqb]
@[simp] theorem eqb_nilp : EV.eqb .nilp .nilp = true := by simp only [EV.eqb]
@[simp] theorem eqb_nilf : EV.eqb .nilf .nilf = true := by simp only [EV.eqb]
@[simp] theorem eqb_nilmap : EV.eqb .nilmap .nilmap = true := by simp only [EV.eqb]
@[simp] theorem eqb_map (a : Nat) : EV.eqb (.map a) (.map a) = true := by simp [EV.eqb]
@[simp] theorem eqbs_nil : EV.eqbs [] [] = true := by simp only [EV.eqbs]
@[simp] theorem eqbs_cons (a b : EV) (r s : List EV) : EV.eqbs (a :: r) (b :: s) = (EV.eqb a b && EV.eqbs r s) := by simp only [EV.eqbs]
@[simp] theorem eqb_cp (a : List PD) (n : Nat) : EV.eqb (.cp a n) (.cp a n) = true := by simp [EV.eqb]
def progOf : List (Nat × DFn) → Prog
 | [], _ => none
 | (n, d) :: r, f => if f = n then some d else progOf r f
theorem call_W {p : Prog} {ext : CallFn → CallFn} (hm : ∀ C C', Sub C C' → Sub (ext C) (ext C')) {f np : Nat} {b : DC} {res : List Res} (hd : p f = some ⟨np, b, res, false, false, false⟩) {args : List EV} {h : Hp} {R : EV → Hp → Prop} (hl : args.length = np)
 (hw : Run (call p ext) [.code b] .normal (args0 0 args) h (Ends res fun v h1 => R v (h1.back h.lim))) : WA (call p ext f args h) R := by
 obtain ⟨v, h1, e, q⟩ := body_W (d := ⟨np, b, res, false, false, false⟩) hl rfl rfl rfl (W_run hw)
 exact ⟨v, h1, call_of_body hm hd e, q⟩
theorem call_loc {p : Prog} {ext : CallFn → CallFn} (hm : ∀ C C', Sub C C' → Sub (ext C) (ext C')) {f np : Nat} {b : DC} {res : List Res} (hd : p f = some ⟨np, b, res, false, true, false⟩) {args : List EV} {h : Hp} {v : EV} (hl : args.length = np) (hv : EV.under h.objs.length v = true)
 (hw : ∀ h0 : Hp, h0.objs = h.objs → h0.lim = h0.objs.length → Run (call p ext) [.code b] .normal (args0 0 args) h0 (Ends res fun u _ => u = v)) : call p ext f args h = some (v, h) := call_of_body hm hd (body_loc (d := ⟨np, b, res, false, true, false⟩) hl rfl rfl rfl hv (W_run (hw _ rfl rfl)))
end Dk
namespace Dk
open Go
structure Fwd (ids : List Nat) (h h' : Hp) : Prop where
 lim : h'.lim = h.lim
 len : h.objs.length ≤ h'.objs.length
 same : ∀ i, i < h.objs.length → i ∉ ids → h'.objs[i]? = h.objs[i]?
theorem arr_lt {h : Hp} {id g : Nat} {a : Arr} (e : h.arr id g = some a) : id < h.objs.length := by
 unfold Hp.arr at e
 cases ho : h.objs[id]? with
 | none => simp [ho] at e
 | some o => exact (List.getElem?_eq_some_iff.1 ho).1
theorem map_lt {h : Hp} {id : Nat} {es : List (PD × EV)} (e : h.mapOf id = some es) : id < h.objs.length := by
 unfold Hp.mapOf at e
 cases ho : h.objs[id]? with
 | none => simp [ho] at e
 | some o => exact (List.getElem?_eq_some_iff.1 ho).1
theorem Fwd.refl (ids : List Nat) (h : Hp) : Fwd ids h h := ⟨rfl, Nat.le_refl _, fun _ _ _ => rfl⟩
theorem Fwd.trans {ids : List Nat} {h h' h'' : Hp} (a : Fwd ids h h') (b : Fwd ids h' h'') : Fwd ids h h'' :=
 ⟨b.lim.trans a.lim, Nat.le_trans a.len b.len, fun i h1 h2 => (b.same i (Nat.lt_of_lt_of_le h1 a.len) h2).trans (a.same i h1 h2)⟩
theorem Fwd.mono {ids ids' : List Nat} {h h' : Hp} (a : Fwd ids h h') (hs : ∀ i ∈ ids, i ∈ ids') : Fwd ids' h h' :=
 ⟨a.lim, a.len, fun i h1 h2 => a.same i h1 fun q => h2 (hs i q)⟩
theorem Fwd.trans' {ids ids' : List Nat} {h h' h'' : Hp} (a : Fwd ids h h') (b : Fwd ids' h' h'') (hs : ∀ i ∈ ids', i ∈ ids ∨ h.objs.length ≤ i) : Fwd ids h h'' :=
 ⟨b.lim.trans a.lim, Nat.le_trans a.len b.len, fun i h1 h2 => (b.same i (Nat.lt_of_lt_of_le h1 a.len) fun q => by
  rcases hs i q with q | q
  · exact h2 q
  · omega).trans (a.same i h1 h2)⟩
theorem Fwd.new {ids : List Nat} {h h' : Hp} (a : Fwd ids h h') (o : Obj) : Fwd ids h (h'.new o) :=
 ⟨a.lim, by have := a.len; simp; omega, fun i h1 h2 => by
  have := a.len
  rw [← a.same i h1 h2]
  exact List.getElem?_append_left (by omega)⟩
theorem Fwd.set {ids : List Nat} {h h' : Hp} (a : Fwd ids h h') {id : Nat} (ar : Arr) (hi : id ∈ ids ∨ h.objs.length ≤ id) : Fwd ids h (h'.setArr id ar) :=
 ⟨a.lim, by simpa using a.len, fun i h1 h2 => by
  rw [← a.same i h1 h2]
  refine List.getElem?_set_ne fun e => ?_
  subst e
  rcases hi with q | q
  · exact h2 q
  · omega⟩
theorem Fwd.setObj {ids : List Nat} {h h' : Hp} (a : Fwd ids h h') {id : Nat} (o : Obj) (hi : id ∈ ids ∨ h.objs.length ≤ id) : Fwd ids h { h' with objs := h'.objs.set id o } :=
 ⟨a.lim, by simpa using a.len, fun i h1 h2 => by
  rw [← a.same i h1 h2]
  refine List.getElem?_set_ne fun e => ?_
  subst e
  rcases hi with q | q
  · exact h2 q
  · omega⟩
theorem Fwd.arr {ids : List Nat} {h h' : Hp} (a : Fwd ids h h') {id g : Nat} {ar : Arr} (e : h.arr id g = some ar) (hi : id ∉ ids) : h'.arr id g = some ar := by
 have := a.same id (arr_lt e) hi
 unfold Hp.arr at *
 rw [this]
 exact e
theorem Fwd.map {ids : List Nat} {h h' : Hp} (a : Fwd ids h h') {id : Nat} {es : List (PD × EV)} (e : h.mapOf id = some es) (hi : id ∉ ids) : h'.mapOf id = some es := by
 have := a.same id (map_lt e) hi
 unfold Hp.mapOf at *
 rw [this]
 exact e
theorem Fwd.back {ids : List Nat} {h h' : Hp} (a : Fwd ids h h') : h'.back h.lim = h' := Hp.back_of a.lim
theorem Fwd.limlen {ids : List Nat} {h h' : Hp} (a : Fwd ids h h') (e : h.lim ≤ h.objs.length) : h'.lim ≤ h'.objs.length := by
 have := a.lim
 have := a.len
 omega
theorem nl {a n : Nat} (h : a < n) : (∀ k, (a = n + k) = False) ∧ (∀ k, (n + k = a) = False) ∧ (a = n) = False ∧ (n = a) = False ∧ (∀ k, (a < n + k) = True) ∧ (a < n) = True ∧ (n ≤ a) = False ∧ (∀ k, (n + k ≤ a) = False) ∧ (a ≤ n) = True :=
 ⟨fun k => eq_false (by omega), fun k => eq_false (by omega), eq_false (by omega), eq_false (by omega), fun k => eq_true (by omega), eq_true h, eq_false (by omega), fun k => eq_false (by omega), eq_true (by omega)⟩
theorem ll {l a n : Nat} (h : l ≤ a) (h1 : a < n) : (l ≤ a) = True ∧ (l ≤ n) = True ∧ ∀ k, (l ≤ n + k) = True := ⟨eq_true h, eq_true (by omega), fun k => eq_true (by omega)⟩
end Dk
namespace Dk
open Go
def Hp.loopOf (h : Hp) (id : Nat) : Option LoopO := match h.objs[id]? with
 | some (.loop l) => some l
 | _ => none
theorem loop_lt {h : Hp} {id : Nat} {l : LoopO} (e : h.loopOf id = some l) : id < h.objs.length := by
 unfold Hp.loopOf at e
 cases ho : h.objs[id]? with
 | none => simp [ho] at e
 | some o => exact (List.getElem?_eq_some_iff.1 ho).1
theorem loopOf_iff {h : Hp} {id : Nat} {l : LoopO} : h.loopOf id = some l ↔ h.objs[id]? = some (.loop l) := by
 unfold Hp.loopOf
 constructor
 · intro e
   split at e
   · cases e; assumption
   · cases e
 · intro e
   rw [e]
theorem Fwd.loop {ids : List Nat} {h h' : Hp} (a : Fwd ids h h') {id : Nat} {l : LoopO} (e : h.loopOf id = some l) (hi : id ∉ ids) : h'.loopOf id = some l := by
 rw [loopOf_iff] at *
 rw [a.same id (List.getElem?_eq_some_iff.1 e).1 hi]
 exact e
theorem call_Round {p : Prog} {ext : CallFn → CallFn} (hm : ∀ C C', Sub C C' → Sub (ext C) (ext C')) (hp : p yieldNo = none) {id : Nat} {ps : List Nat} {a b : DC} {fr0 : Fr} {as : List EV} {h : Hp} {R : EV → Hp → Prop}
 (hl : h.loopOf id = some ⟨ps, a, b, fr0, .ready⟩) (hlim : h.lim ≤ id) (hlen : as.length = ps.length)
 (ha : Run (call p ext) [.code a] .normal ((ps.zip as).foldl (fun fr p => p :: fr) fr0) h fun e fr h1 => e = .normal ∧ h1.loopOf id = some ⟨ps, a, b, fr0, .ready⟩ ∧
  ∀ h2, Fwd [id] h1 h2 → h2.loopOf id = some ⟨ps, a, b, fr0, .busy⟩ → h2.objs.length = h1.objs.length → Run (call p ext) [.code b] .normal fr h2 fun e _ h3 => h3.loopOf id = some ⟨ps, a, b, fr0, .busy⟩ ∧
   ∀ h4, Fwd [id] h3 h4 → h4.loopOf id = some ⟨ps, a, b, fr0, if e = .normal then .ready else .done e⟩ → h4.objs.length = h3.objs.length → R (eB (decide (e = .normal))) h4) : WA (call p ext yieldNo (rndVs id as) h) R := by
 have ha := W_run ha
 obtain ⟨e1, fr1, h1, x1, rfl, l1, hb⟩ := ha
 have lt1 := loop_lt l1
 have hb := W_run (hb { h1 with objs := h1.objs.set id (.loop ⟨ps, a, b, fr0, .busy⟩) } ((Fwd.refl _ _).setObj _ (by simp)) (by rw [loopOf_iff]; exact List.getElem?_set_self lt1) (by simp))
 obtain ⟨e2, fr2, h2, x2, l2, hq⟩ := hb
 have lt2 := loop_lt l2
 have hq := hq { h2 with objs := h2.objs.set id (.loop ⟨ps, a, b, fr0, if e2 = .normal then .ready else .done e2⟩) } ((Fwd.refl _ _).setObj _ (by simp)) (by rw [loopOf_iff]; exact List.getElem?_set_self lt2) (by simp)
 refine ⟨_, _, call_of_round hm hp ?_, hq⟩
 have key := roundC_of (C := call p ext) (z := id) (as := as) (h := h) (l := ⟨ps, a, b, fr0, .ready⟩) (fr := fr1) (h1 := h1) (l1 := ⟨ps, a, b, fr0, .ready⟩) (ex := e2) (fr2 := fr2) (h2 := h2) (l2 := ⟨ps, a, b, fr0, .busy⟩)
  (by simpa using loopOf_iff.1 hl) rfl ⟨hlen, by simpa using hlim⟩ x1 (by simpa using loopOf_iff.1 l1) rfl (by simpa using x2) (by simpa using loopOf_iff.1 l2)
 exact key
theorem Run_range {C : CallFn} {ps keep : List Nat} {x : X} {a b : DC} {k : List Ct} {fr : Fr} {h : Hp} {Q : Ex → Fr → Hp → Prop} {f : Nat} {u v : List EV} (hx : x.ev fr = .fn (.func f) u v)
 (hw : ∀ h1, h1.loopOf h.objs.length = some ⟨ps, a, b, mask keep fr, .ready⟩ → Fwd [] h h1 → h1.objs.length = h.objs.length + 1 → WA (C f (u ++ [.yld h.objs.length] ++ v) h1) fun _ h2 =>
  ∃ l e, h2.loopOf h.objs.length = some l ∧ loopEnd l.st = some e ∧ ∀ h3, Fwd [h.objs.length] h2 h3 → h3.objs.length = h2.objs.length → Run C k e fr h3 Q) :
 Run C (.code (.range ps keep x a b) :: k) .normal fr h Q := by
 simp only [Run]
 obtain ⟨rv, h2, hc, l, e, hl, he, hq⟩ := hw (h.new (.loop ⟨ps, a, b, mask keep fr, .ready⟩)) (by rw [loopOf_iff]; simp [Hp.new]) ((Fwd.refl _ _).new _) (by simp [Hp.new])
 refine ⟨e, fr, _, ?_, hq { h2 with objs := h2.objs.set h.objs.length (.loop { l with st := .over }) } ((Fwd.refl _ _).setObj _ (by simp)) (by simp)⟩
 simp only [exec, hx]
 rw [show (h.new (.loop ⟨ps, a, b, keep.map fun k => (k, fr.get k), .ready⟩)) = h.new (.loop ⟨ps, a, b, mask keep fr, .ready⟩) from rfl, hc]
 simp only [loopOf_iff.1 hl, he]
structure Rounds (C : CallFn) (id : Nat) (xs : List (List EV)) (I : Nat → List Nat → Hp → Prop) (J : List Nat → Hp → Prop) : Prop where
 lt : ∀ i fp h, I i fp h → ∀ x ∈ fp, x < h.objs.length
 ltJ : ∀ fp h, J fp h → ∀ x ∈ fp, x < h.objs.length
 keep : ∀ i fp ids h h', I i fp h → Fwd ids h h' → (∀ x ∈ ids, x ∉ fp) → I i fp h'
 keepJ : ∀ fp ids h h', J fp h → Fwd ids h h' → (∀ x ∈ ids, x ∉ fp) → J fp h'
 step : ∀ i args fp h, xs[i]? = some args → I i fp h → WA (C yieldNo (rndVs id args) h) fun r h' => ∃ fp', Fwd fp h h' ∧ (∀ x ∈ fp', x ∈ fp ∨ h.objs.length ≤ x) ∧ (r = eB true ∧ I (i + 1) fp' h' ∨ r = eB false ∧ J fp' h')
def Handed (n : Nat) (I : Nat → List Nat → Hp → Prop) (J : List Nat → Hp → Prop) (fp : List Nat) (h h' : Hp) : Prop :=
 ∃ fp', Fwd fp h h' ∧ (∀ x ∈ fp', x ∈ fp ∨ h.objs.length ≤ x) ∧ (I n fp' h' ∨ J fp' h')
end Dk
namespace Dk
open Go
inductive Own (h : Hp) (sz : Nat) (ag : Bool) : EV → List (List EV) → List Nat → Prop
 | nil : Own h sz ag (.full []) [] []
 | arr {id g off len frz : Nat} {f : Bool} {E : List (List EV)} : h.arr id g = some ⟨g, sz, ag, frz, E⟩ → off + len ≤ E.length → frz ≤ off + len → h.lim ≤ id → Own h sz ag (.arr id g sz off len f) ((E.drop off).take len) [id]
theorem Own.els {h : Hp} {sz : Nat} {ag : Bool} {v : EV} {els : List (List EV)} {fp : List Nat} (H : Own h sz ag v els fp) : elsOf sz v h = some els := by
 cases H with
 | nil => simp [elsOf, sized]
 | arr h1 h2 h3 h4 => simp [elsOf, h1, h2]
theorem Own.len {h : Hp} {sz : Nat} {ag : Bool} {v : EV} {els : List (List EV)} {fp : List Nat} (H : Own h sz ag v els fp) : lenOf 0 v h = some els.length := by
 cases H with
 | nil => rfl
 | arr h1 h2 h3 h4 =>
  simp only [lenOf, List.length_take, List.length_drop]
  congr 1
  omega
theorem Own.lt {h : Hp} {sz : Nat} {ag : Bool} {v : EV} {els : List (List EV)} {fp : List Nat} (H : Own h sz ag v els fp) : ∀ x ∈ fp, x < h.objs.length := by
 cases H with
 | nil => intro x hx; cases hx
 | arr h1 h2 h3 h4 => intro x hx; simp at hx; subst hx; exact arr_lt h1
theorem Own.fwd {h h' : Hp} {sz : Nat} {ag : Bool} {v : EV} {els : List (List EV)} {fp ids : List Nat} (H : Own h sz ag v els fp) (f : Fwd ids h h') (hn : ∀ x ∈ fp, x ∉ ids) : Own h' sz ag v els fp := by
 cases H with
 | nil => exact .nil
 | arr h1 h2 h3 h4 => exact .arr (f.arr h1 (hn _ (by simp))) h2 h3 (by rw [f.lim]; exact h4)
def Grown (fp : List Nat) (h : Hp) (fp' : List Nat) : Prop := ∀ y ∈ fp', y ∈ fp ∨ h.objs.length ≤ y
theorem Own.append {h : Hp} {sz bytes : Nat} {ag : Bool} {v x : EV} {els ys : List (List EV)} {fp : List Nat} (H : Own h sz ag v els fp) (hx : elsOf sz x h = some ys) (hb : (els.length + ys.length) * bytes ≤ 140737488355328) (hl : h.lim ≤ h.objs.length) :
 WA (appendTo sz ag bytes v x h) fun v' h' => ∃ fp', Own h' sz ag v' (els ++ ys) fp' ∧ Fwd fp h h' ∧ Grown fp h fp' := by
 cases H with
 | nil =>
  simp only [appendTo, elsX, hx]
  by_cases hy : ys.isEmpty = true
  · have : ys = [] := by simpa using hy
    subst this
    exact ⟨_, _, by rw [if_pos hy], [], by simpa using Own.nil, Fwd.refl _ _, fun y hy => by cases hy⟩
  · rw [if_neg hy, if_pos ⟨by simp [sized], by simpa using hb⟩]
    refine ⟨_, _, rfl, [h.objs.length], ?_, (Fwd.refl _ _).new _, fun y hy => .inr (by simp at hy; omega)⟩
    have key : Own (h.new (.cells ⟨0, sz, ag, 0, List.map toEV [] ++ ys⟩)) sz ag (.arr h.objs.length 0 sz 0 (([] : List PD).length + ys.length) false) (((([] : List PD).map toEV ++ ys).drop 0).take (([] : List PD).length + ys.length)) [h.objs.length] :=
     .arr (frz := 0) (by simp [Hp.arr_new]) (by simp) (by omega) (by simpa using hl)
    simpa using key
 | @arr id g off len frz f E h1 h2 h3 h4 =>
  have hlen : ((E.drop off).take len).length = len := by simp; omega
  rw [hlen] at hb
  simp only [appendTo, elsX, hx, h1]
  rw [if_pos ⟨trivial, trivial, trivial, h2, hb⟩]
  have hown := Own.arr (f := f) h1 h2 h3 h4
  generalize (E.drop off).take len = Z at *
  by_cases hy : ys.isEmpty = true
  · have : ys = [] := by simpa using hy
    subst this
    refine ⟨_, _, by rw [if_pos hy], [id], by simpa using hown, Fwd.refl _ _, fun y hy => .inl hy⟩
  · rw [if_neg hy]
    by_cases hf : f = true
    · rw [if_pos hf]
      refine ⟨_, _, rfl, [h.objs.length], ?_, (Fwd.refl _ _).new _, fun y hy => .inr (by simp at hy; omega)⟩
      have key : Own (h.new (.cells ⟨0, sz, ag, 0, Z ++ ys⟩)) sz ag (.arr h.objs.length 0 sz 0 (len + ys.length) false) (((Z ++ ys).drop 0).take (len + ys.length)) [h.objs.length] :=
       .arr (frz := 0) (by simp [Hp.arr_new]) (by simp; omega) (by omega) (by simpa using hl)
      rw [List.drop_zero, List.take_of_length_le (by simp; omega)] at key
      exact key
    · rw [if_neg hf, if_pos ⟨h3, h4⟩]
      refine ⟨_, _, rfl, [id], ?_, (Fwd.refl _ _).set _ (by simp), fun y hy => .inl hy⟩
      have key : Own (h.setArr id ⟨g + 1, sz, ag, frz - off, Z ++ ys⟩) sz ag (.arr id (g + 1) sz 0 (len + ys.length) false) (((Z ++ ys).drop 0).take (len + ys.length)) [id] :=
       .arr (frz := frz - off) (by simp [Hp.arr_set, arr_lt h1]) (by simp; omega) (by omega) (by simpa using h4)
      rw [List.drop_zero, List.take_of_length_le (by simp; omega)] at key
      exact key
def Hp.setMap (h : Hp) (id : Nat) (es : List (PD × EV)) : Hp := { h with objs := h.objs.set id (.map es) }
@[simp] theorem Hp.mapOf_new (h : Hp) (o : Obj) (id : Nat) : (h.new o).mapOf id = if id = h.objs.length then (match o with | .map es => some es | _ => none) else h.mapOf id := by
 unfold Hp.mapOf Hp.new
 by_cases e : id = h.objs.length
 · subst e
   simp
   cases o <;> rfl
 · rw [if_neg e]
   by_cases hl : id < h.objs.length
   · simp only [List.getElem?_append_left hl]
   · have h1 : h.objs[id]? = none := List.getElem?_eq_none_iff.2 (by omega)
     have h2 : (h.objs ++ [o])[id]? = none := List.getElem?_eq_none_iff.2 (by simp; omega)
     simp only [h1, h2]
@[simp] theorem Hp.mapOf_setArr (h : Hp) (k : Nat) (a : Arr) (id : Nat) : (h.setArr k a).mapOf id = if id = k ∧ k < h.objs.length then none else h.mapOf id := by
 unfold Hp.mapOf Hp.setArr
 by_cases e : id = k
 · subst e
   by_cases hl : id < h.objs.length
   · simp [hl]
   · have h1 : h.objs[id]? = none := List.getElem?_eq_none_iff.2 (by omega)
     simp [hl, h1]
 · simp only [List.getElem?_set_ne (Ne.symm e)]
   rw [if_neg (fun q => e q.1)]
@[simp] theorem Hp.mapOf_setMap (h : Hp) (k : Nat) (es : List (PD × EV)) (id : Nat) : (h.setMap k es).mapOf id = if id = k ∧ k < h.objs.length then some es else h.mapOf id := by
 unfold Hp.mapOf Hp.setMap
 by_cases e : id = k
 · subst e
   by_cases hl : id < h.objs.length
   · simp [hl]
   · have h1 : h.objs[id]? = none := List.getElem?_eq_none_iff.2 (by omega)
     simp [hl, h1]
 · simp only [List.getElem?_set_ne (Ne.symm e)]
   rw [if_neg (fun q => e q.1)]
@[simp] theorem Hp.arr_setMap (h : Hp) (k : Nat) (es : List (PD × EV)) (id g : Nat) : (h.setMap k es).arr id g = if id = k ∧ k < h.objs.length then none else h.arr id g := by
 unfold Hp.arr Hp.setMap
 by_cases e : id = k
 · subst e
   by_cases hl : id < h.objs.length
   · simp [hl]
   · have h1 : h.objs[id]? = none := List.getElem?_eq_none_iff.2 (by omega)
     simp [hl, h1]
 · simp only [List.getElem?_set_ne (Ne.symm e)]
   rw [if_neg (fun q => e q.1)]
@[simp] theorem Hp.len_setMap (h : Hp) (k : Nat) (es : List (PD × EV)) : (h.setMap k es).objs.length = h.objs.length := by simp [Hp.setMap]
@[simp] theorem Hp.lim_setMap (h : Hp) (k : Nat) (es : List (PD × EV)) : (h.setMap k es).lim = h.lim := rfl
@[simp] theorem Hp.back_setMap (h : Hp) (k : Nat) (es : List (PD × EV)) (l : Nat) : (h.setMap k es).back l = (h.back l).setMap k es := rfl
theorem Fwd.setMap {ids : List Nat} {h h' : Hp} (a : Fwd ids h h') {id : Nat} (es : List (PD × EV)) (hi : id ∈ ids ∨ h.objs.length ≤ id) : Fwd ids h (h'.setMap id es) := a.setObj _ hi
theorem sized_at {sz : Nat} {xs : List PD} (h : sized sz xs = true) {i : Nat} {x : PD} (hi : xs[i]? = some x) : x.cells.length = sz := by
 have := List.all_eq_true.1 h x (List.mem_of_getElem? hi)
 simpa using this
theorem els_get {sz : Nat} {v : EV} {h : Hp} {els : List (List EV)} (he : elsOf sz v h = some els) {i : Nat} {el : List EV} (hi : els[i]? = some el) (hs : el.length = sz) (k : IntKind) :
 ∃ q, indexAddr sz v (.p (.int k (i : Int))) = some q ∧ loadAt true sz q h = some (.agg el) := by
 have lt := (List.getElem?_eq_some_iff.1 hi).1
 have pd : ∀ xs : List PD, (if sized sz xs = true then some (xs.map toEV) else none) = some els → ∃ x, xs[i]? = some x ∧ toEV x = el ∧ x.cells.length = sz ∧ i < xs.length := by
  intro xs e
  split at e
  · rename_i hsz
    cases e
    simp only [List.getElem?_map, Option.map_eq_some_iff] at hi
    obtain ⟨x, h1, h2⟩ := hi
    exact ⟨x, h1, h2, sized_at hsz h1, (List.getElem?_eq_some_iff.1 h1).1⟩
  · cases e
 unfold elsOf at he
 split at he
 · rename_i xs
   obtain ⟨x, h1, h2, h3, h4⟩ := pd xs he
   refine ⟨.cp x.cells 0, by simp only [indexAddr, idx_nat, if_pos h4, h1, if_pos h3], ?_⟩
   subst h2
   have e3 : x.cells.take sz = x.cells := List.take_of_length_le (by omega)
   simp only [loadAt, Nat.zero_add, h3, Nat.le_refl, if_true, List.drop_zero, e3, mk, toEV]
 · rename_i xs
   obtain ⟨x, h1, h2, h3, h4⟩ := pd xs he
   refine ⟨.cp x.cells 0, by simp only [indexAddr, idx_nat, if_pos h4, h1, if_pos h3], ?_⟩
   subst h2
   have e3 : x.cells.take sz = x.cells := List.take_of_length_le (by omega)
   simp only [loadAt, Nat.zero_add, h3, Nat.le_refl, if_true, List.drop_zero, e3, mk, toEV]
 · rename_i id g s off len f
   split at he
   · rename_i a ha
     split at he
     · rename_i hc
       obtain ⟨rfl, hc2, hc3⟩ := hc
       cases he
       have hl : i < len := by simp at lt; omega
       have e2 : a.els[off + i]? = some el := by
        rw [List.getElem?_take, if_pos hl, List.getElem?_drop] at hi
        exact hi
       refine ⟨.ptr id g (off + i) 0, by simp only [indexAddr, if_true, idx_nat, if_pos hl], ?_⟩
       have e3 : el.take s = el := List.take_of_length_le (by omega)
       simp only [loadAt, ha, e2, Nat.zero_add, hs, Nat.le_refl, if_true, List.drop_zero, e3, mk]
     · cases he
   · cases he
 · cases he
theorem Own.empty {hh : Hp} {i sz : Nat} {ag : Bool} (f : Bool) (e1 : hh.arr i 0 = some ⟨0, sz, ag, 0, []⟩) (e2 : hh.lim ≤ i) : Own hh sz ag (.arr i 0 sz 0 0 f) [] [i] := by
 simpa using Own.arr (off := 0) (len := 0) (f := f) e1 (by simp) (by simp) e2
theorem Own.nodup {h : Hp} {sz : Nat} {ag : Bool} {v : EV} {els : List (List EV)} {fp : List Nat} (H : Own h sz ag v els fp) : fp.Nodup := by
 cases H <;> simp
theorem Own.one {h : Hp} {sz : Nat} {ag : Bool} {v : EV} {els : List (List EV)} {fp : List Nat} (H : Own h sz ag v els fp) : v.cells = [v] ∧ EV.one v = true := by
 cases H <;> exact ⟨rfl, rfl⟩
theorem els_get1 {v : EV} {h : Hp} {els : List (List EV)} (he : elsOf 1 v h = some els) {i : Nat} {e : EV} (hi : els[i]? = some [e]) (k : IntKind) :
 ∃ q, indexAddr 1 v (.p (.int k (i : Int))) = some q ∧ loadAt false 1 q h = some e := by
 obtain ⟨q, q1, q2⟩ := els_get he hi rfl k
 refine ⟨q, q1, ?_⟩
 unfold loadAt at q2 ⊢
 split at q2
 · split at q2
   · split at q2
     · split at q2
       · rename_i hc
         simp only [mk, if_true, Option.some.injEq, EV.agg.injEq] at q2
         rw [if_pos hc, q2]
         rfl
       · cases q2
     · cases q2
   · cases q2
 · split at q2
   · rename_i hc
     simp only [mk, if_true, Option.some.injEq, EV.agg.injEq] at q2
     rw [if_pos hc, q2]
     rfl
   · cases q2
 · cases q2
end Dk
namespace Dk
open Go Go.RowKit
inductive LT where
 | int (k : IntKind)
 | bool
 | str
 | slice (ls : List LT) (ag : Bool)
mutual
def PT : LT → PD → Prop
 | .int k, x => ∃ n, x = .int k n ∧ k.min ≤ n ∧ n ≤ k.max
 | .bool, x => ∃ b, x = .bool b
 | .str, x => ∃ s, x = .str s ∧ s.size ≤ maxLen
 | .slice ls ag, x => ∃ xs, x = .list xs ∧ xs.length ≤ maxLen ∧ ∀ e ∈ xs, (if ag then ∃ cs, e = .agg cs ∧ PTs ls cs else PTs ls [e])
def PTs : List LT → List PD → Prop
 | [], cs => cs = []
 | l :: r, cs => ∃ c s, cs = c :: s ∧ PT l c ∧ PTs r s
end
theorem PTs_len : ∀ {ls : List LT} {cs : List PD}, PTs ls cs → cs.length = ls.length
 | [], cs, h => by simp [PTs] at h; simp [h]
 | l :: r, cs, h => by
  simp only [PTs] at h
  obtain ⟨c, s, rfl, _, h⟩ := h
  simp [PTs_len h]
theorem PTs_append : ∀ {ls ms : List LT} {cs ds : List PD}, PTs ls cs → PTs ms ds → PTs (ls ++ ms) (cs ++ ds)
 | [], ms, cs, ds, h, k => by simp [PTs] at h; subst h; simpa using k
 | l :: r, ms, cs, ds, h, k => by
  simp only [PTs] at h
  obtain ⟨c, s, rfl, h1, h⟩ := h
  simp only [List.cons_append, PTs]
  exact ⟨c, s ++ ds, rfl, h1, PTs_append h k⟩
mutual
def ltOf (P : Program) : Nat → TypeId → Option (List LT × Bool)
 | 0, _ => none
 | n + 1, t => match P.underlying t with
  | some .bool => some ([.bool], false)
  | some (.int k) => some ([.int k], false)
  | some .string => some ([.str], false)
  | some (.slice e) => match ltOf P n e with
   | some (ls, ag) => if ls.length = P.cellsOf e ∧ ls ≠ [] ∧ (ag = true ∨ ls.length = 1) then some ([.slice ls ag], false) else none
   | none => none
  | some (.struct fs) => match ltFields P n 0 fs.toList with
   | some ls => if ls.length = P.cellsOf t then some (ls, true) else none
   | none => none
  | some (.array m e) => match ltOf P n e with
   | some (ls, _) => if ls.length = P.cellsOf e ∧ m * ls.length = P.cellsOf t then some ((List.replicate m ls).flatten, true) else none
   | none => none
  | _ => none
def ltFields (P : Program) : Nat → Nat → List Field → Option (List LT)
 | _, _, [] => some []
 | 0, _, _ => none
 | n + 1, off, f :: r => match ltOf P n f.type with
  | some (ls, _) => if f.offset = off ∧ ls.length = P.cellsOf f.type then match ltFields P n (off + ls.length) r with
   | some rs => some (ls ++ rs)
   | none => none
   else none
  | none => none
end
def rdW (w : World) (b o : Nat) : Option Value := match w.cell? ⟨b, o, none⟩ with
 | some v => if v.oneCell' = true then some v else none
 | none => none
def RQs (rd : Nat → Nat → Option Value) : List PD → List Value → Prop
 | [], vs => vs = []
 | x :: r, vs => ∃ v s, vs = v :: s ∧ RP rd x v ∧ v.oneCell' = true ∧ RQs rd r s
theorem RQs_len {rd : Nat → Nat → Option Value} : ∀ {xs : List PD} {vs : List Value}, RQs rd xs vs → xs.length = vs.length
 | [], vs, h => by simp [RQs] at h; simp [h]
 | x :: r, vs, h => by
  simp only [RQs] at h
  obtain ⟨v, s, rfl, _, _, h⟩ := h
  simp [RQs_len h]
theorem RQs_one {rd : Nat → Nat → Option Value} {x : PD} {v : Value} (h : RP rd x v) (h1 : v.oneCell' = true) : RQs rd [x] [v] := by
 simp only [RQs]
 exact ⟨v, [], rfl, h, h1, rfl⟩
theorem RQs_append {rd : Nat → Nat → Option Value} : ∀ {xs ys : List PD} {vs ws : List Value}, RQs rd xs vs → RQs rd ys ws → RQs rd (xs ++ ys) (vs ++ ws)
 | [], ys, vs, ws, h, k => by simp [RQs] at h; subst h; simpa using k
 | x :: r, ys, vs, ws, h, k => by
  simp only [RQs] at h
  obtain ⟨v, s, rfl, h1, h2, h⟩ := h
  simp only [List.cons_append, RQs]
  exact ⟨v, s ++ ws, rfl, h1, h2, RQs_append h k⟩
theorem RQs_get {rd : Nat → Nat → Option Value} : ∀ {xs : List PD} {vs : List Value}, RQs rd xs vs → ∀ (i : Nat) (x : PD), xs[i]? = some x → ∃ v, vs[i]? = some v ∧ RP rd x v ∧ v.oneCell' = true
 | [], vs, h, i, x, hi => by simp at hi
 | y :: r, vs, h, i, x, hi => by
  simp only [RQs] at h
  obtain ⟨v, s, rfl, h1, h2, h⟩ := h
  cases i with
  | zero => simp at hi; subst hi; exact ⟨v, by simp, h1, h2⟩
  | succ i => simpa using RQs_get h i x (by simpa using hi)
theorem exists_list {α : Type} {p : Nat → α → Prop} : ∀ (n : Nat), (∀ i, i < n → ∃ x, p i x) → ∃ l : List α, l.length = n ∧ ∀ (i : Nat) (x : α), l[i]? = some x → p i x
 | 0, _ => ⟨[], rfl, fun i x h => by simp at h⟩
 | n + 1, h => by
  obtain ⟨l, hl, hp⟩ := exists_list n fun i hi => h i (by omega)
  obtain ⟨x, hx⟩ := h n (by omega)
  refine ⟨l ++ [x], by simp [hl], fun i y hy => ?_⟩
  rcases Nat.lt_or_ge i l.length with q | q
  · rw [List.getElem?_append_left q] at hy
    exact hp i y hy
  · rw [List.getElem?_append_right q] at hy
    have : i - l.length = 0 := by
     rcases Nat.eq_zero_or_pos (i - l.length) with e | e
     · exact e
     · rw [List.getElem?_eq_none (by simp; omega)] at hy; cases hy
    rw [this] at hy
    simp at hy
    subst hy
    have : i = n := by omega
    subst this
    exact hx
theorem range_mapM {β : Type} {f : Nat → Option β} {n : Nat} {r : List β} (h : (List.range n).mapM f = some r) : ∀ i, i < n → ∃ y, f i = some y ∧ r[i]? = some y := by
 intro i hi
 have h1 := mapM_some_get h i i (by simp [hi])
 have hl := mapM_some_length h
 have hr : i < r.length := by simpa [hl] using hi
 exact ⟨r[i], by rw [h1]; exact List.getElem?_eq_getElem hr, List.getElem?_eq_getElem hr⟩
theorem cells_rd {w : World} {a : Addr} {n : Nat} {cs : List Value} (h : w.cells? 0 a n = some cs) : cs.length = n ∧ ∀ i v, cs[i]? = some v → w.cell? (a.add i) = some v := by
 unfold World.cells? at h
 rw [if_pos (Nat.zero_le _)] at h
 have hl := mapM_some_length h
 refine ⟨by simpa using hl, fun i v hi => ?_⟩
 have hi' : i < n := by have := (List.getElem?_eq_some_iff.1 hi).1; simpa [hl] using this
 obtain ⟨y, h1, h2⟩ := range_mapM h i hi'
 rw [hi] at h2
 cases h2
 exact h1
theorem spot_none {w : World} {a : Addr} {v : Value} (h : w.cell? a = some v) : a.spot = none := by
 unfold World.cell? at h
 split at h
 · split at h
   · cases h
   · rename_i hs
     cases hq : a.spot with
     | none => rfl
     | some x => simp [hq] at hs
 · cases h
theorem PTs_one {l : LT} {xs : List PD} (h : PTs [l] xs) : ∃ x, xs = [x] ∧ PT l x := by
 simp only [PTs] at h
 obtain ⟨c, s, rfl, h1, rfl⟩ := h
 exact ⟨c, rfl, h1⟩
theorem elem_mk {ls : List LT} {ag : Bool} {xs : List PD} (h : PTs ls xs) (hag : ag = true ∨ ls.length = 1) : ∃ e : PD, (if ag then ∃ cs, e = .agg cs ∧ PTs ls cs else PTs ls [e]) ∧ e.cells = xs := by
 cases ag with
 | true => exact ⟨.agg xs, by simp; exact h, rfl⟩
 | false =>
  have hl : ls.length = 1 := hag.resolve_left (by simp)
  cases ls with
  | nil => simp at hl
  | cons l r =>
   have : r = [] := by simpa using hl
   subst this
   obtain ⟨x, rfl, hx⟩ := PTs_one h
   refine ⟨x, by simpa using h, ?_⟩
   cases x with
   | agg cs => cases l <;> simp [PT] at hx
   | _ => rfl
section read
variable {H : Type} {enc : TypeId × Value → H} {P : Program} {w : World}
theorem trod_bool {fuel : Nat} {t : TypeId} {cs : List Value} {x : DataW H × List MemPlace} (hu : P.underlying t = some .bool) (h : DataW.trod enc P w 0 (fun _ => true) true (fuel + 1) t cs = some x) : ∃ b, cs = [.bool b] := by
 unfold DataW.trod at h
 rw [hu] at h
 split at h <;> simp_all
theorem trod_int {fuel : Nat} {t : TypeId} {cs : List Value} {k : IntKind} {x : DataW H × List MemPlace} (hu : P.underlying t = some (.int k)) (h : DataW.trod enc P w 0 (fun _ => true) true (fuel + 1) t cs = some x) : ∃ n, cs = [.int k n] ∧ k.min ≤ n ∧ n ≤ k.max := by
 unfold DataW.trod at h
 rw [hu] at h
 split at h <;> simp_all [Lit.wf]
theorem trod_str {fuel : Nat} {t : TypeId} {cs : List Value} {x : DataW H × List MemPlace} (hu : P.underlying t = some .string) (h : DataW.trod enc P w 0 (fun _ => true) true (fuel + 1) t cs = some x) : ∃ s, cs = [.string s] ∧ s.size ≤ maxLen := by
 unfold DataW.trod at h
 rw [hu] at h
 split at h <;> simp_all
theorem trod_slice {fuel : Nat} {t e : TypeId} {cs : List Value} {x : DataW H × List MemPlace} (hu : P.underlying t = some (.slice e)) (h : DataW.trod enc P w 0 (fun _ => true) true (fuel + 1) t cs = some x) :
 cs = [.slice none 0 0] ∨ ∃ a len cap, cs = [.slice (some a) len cap] ∧ len ≤ cap ∧ cap ≤ maxLen ∧ ∀ i, i < len → ∃ es y, w.cells? 0 (a.add (i * P.cellsOf e)) (P.cellsOf e) = some es ∧ DataW.trod enc P w 0 (fun _ => true) true fuel e es = some y := by
 unfold DataW.trod at h
 rw [hu] at h
 split at h <;> first | (rename_i hD; simp at hD; done) | skip
 all_goals try (rename_i hD; simp at hD; done)
 all_goals try (rename_i hD _; simp at hD; done)
 · exact .inl rfl
 · rename_i e' a len cap he
   cases he
   simp only at h
   split at h
   · rename_i hc
     refine .inr ⟨a, len, cap, rfl, hc.2.1, hc.2.2, fun i hi => ?_⟩
     cases hm : List.mapM (fun i => (w.cells? 0 (a.add (i * P.cellsOf e)) (P.cellsOf e)).bind (DataW.trod enc P w 0 (fun x => true) true fuel e)) (List.range len) with
     | none => simp [hm] at h
     | some r =>
      obtain ⟨y, hy, _⟩ := range_mapM hm i hi
      cases hq : w.cells? 0 (a.add (i * P.cellsOf e)) (P.cellsOf e) with
      | none => simp [hq] at hy
      | some es => exact ⟨es, y, rfl, by simpa [hq] using hy⟩
   · cases h
 · cases h
theorem trod_struct {fuel : Nat} {t : TypeId} {fs : Array Field} {cs : List Value} {x : DataW H × List MemPlace} (hu : P.underlying t = some (.struct fs)) (h : DataW.trod enc P w 0 (fun _ => true) true (fuel + 1) t cs = some x) :
 cs.length = P.cellsOf t ∧ ∃ xs, fs.toList.mapM (fun f => DataW.trod enc P w 0 (fun _ => true) true fuel f.type ((cs.drop f.offset).take (P.cellsOf f.type))) = some xs := by
 unfold DataW.trod at h
 rw [hu] at h
 split at h <;> simp_all
 all_goals (obtain ⟨_, a, q, _⟩ := h; exact ⟨a, q⟩)
theorem trod_array {fuel m : Nat} {t e : TypeId} {cs : List Value} {x : DataW H × List MemPlace} (hu : P.underlying t = some (.array m e)) (h : DataW.trod enc P w 0 (fun _ => true) true (fuel + 1) t cs = some x) :
 cs.length = P.cellsOf t ∧ ∃ xs, (List.range m).mapM (fun i => DataW.trod enc P w 0 (fun _ => true) true fuel e ((cs.drop (i * P.cellsOf e)).take (P.cellsOf e))) = some xs := by
 unfold DataW.trod at h
 rw [hu] at h
 split at h <;> simp_all
 all_goals (obtain ⟨_, a, q, _⟩ := h; exact ⟨a, q⟩)
theorem add_zero' (a : Addr) : a.add 0 = a := by simp [Addr.add]
theorem add_off {b o : Nat} (n : Nat) : (⟨b, o, none⟩ : Addr).add n = ⟨b, o + n, none⟩ := by
 unfold Addr.add
 split
 · rename_i h; subst h; rfl
 · rfl
theorem fields_pt {tr : TypeId → List Value → Prop} {n0 : Nat} (IH : ∀ n, n ≤ n0 → ∀ t cs ls ag, tr t cs → ltOf P n t = some (ls, ag) → ∃ xs, PTs ls xs ∧ RQs (rdW w) xs cs) :
 ∀ (n : Nat), n ≤ n0 → ∀ (fs : List Field) (off : Nat) (cs : List Value) (ls : List LT), ltFields P n off fs = some ls → (∀ f ∈ fs, tr f.type ((cs.drop f.offset).take (P.cellsOf f.type))) → cs.length = off + ls.length → ∃ xs, PTs ls xs ∧ RQs (rdW w) xs (cs.drop off)
 | n, _, [], off, cs, ls, hl, _, hlen => by
  have : ls = [] := by cases n <;> simp [ltFields] at hl <;> simp [hl]
  subst this
  refine ⟨[], by simp [PTs], ?_⟩
  simp at hlen
  simp [RQs, hlen]
 | 0, _, f :: r, off, cs, ls, hl, _, _ => by simp [ltFields] at hl
 | n + 1, hn, f :: r, off, cs, ls, hl, hf, hlen => by
  simp only [ltFields] at hl
  split at hl
  · rename_i l1 ag1 h1
    split at hl
    · rename_i hc
      split at hl
      · rename_i rs hrs
        cases hl
        obtain ⟨xs, q1, q2⟩ := IH n (by omega) f.type _ l1 ag1 (hf f (by simp)) h1
        have hlen' : cs.length = off + l1.length + rs.length := by simpa [Nat.add_assoc] using hlen
        obtain ⟨ys, r1, r2⟩ := fields_pt IH n (by omega) r (off + l1.length) cs rs hrs (fun g hg => hf g (by simp [hg])) hlen'
        refine ⟨xs ++ ys, PTs_append q1 r1, ?_⟩
        have := RQs_append q2 r2
        rw [hc.1, ← hc.2] at this
        rwa [← List.drop_drop, List.take_append_drop] at this
      · cases hl
    · cases hl
  · cases hl
theorem array_pt {tr : List Value → Prop} {ls : List LT} {sz : Nat} (hsz : ls.length = sz) (IH : ∀ cs, tr cs → ∃ xs, PTs ls xs ∧ RQs (rdW w) xs cs) : ∀ (m : Nat) (cs : List Value), cs.length = m * sz → (∀ i, i < m → tr ((cs.drop (i * sz)).take sz)) → ∃ xs, PTs (List.replicate m ls).flatten xs ∧ RQs (rdW w) xs cs
 | 0, cs, hl, _ => ⟨[], by simp [PTs], by simp at hl; simp [RQs, hl]⟩
 | m + 1, cs, hl, h => by
  obtain ⟨xs, q1, q2⟩ := IH _ (by simpa using h 0 (by omega))
  obtain ⟨ys, r1, r2⟩ := array_pt hsz IH m (cs.drop sz) (by simp [hl, Nat.add_mul]) (fun i hi => by
   have := h (i + 1) (by omega)
   rw [List.drop_drop, show sz + i * sz = (i + 1) * sz by rw [Nat.add_mul]; omega]
   exact this)
  refine ⟨xs ++ ys, by rw [List.replicate_succ, List.flatten_cons]; exact PTs_append q1 r1, ?_⟩
  have := RQs_append q2 r2
  rwa [List.take_append_drop] at this
theorem trod_pt : ∀ (fuel n : Nat) (t : TypeId) (cs : List Value) (ls : List LT) (ag : Bool),
 (∃ x, DataW.trod enc P w 0 (fun _ => true) true fuel t cs = some x) → ltOf P n t = some (ls, ag) → ∃ xs, PTs ls xs ∧ RQs (rdW w) xs cs
 | 0, _, _, _, _, _, h, _ => by obtain ⟨x, h⟩ := h; simp [DataW.trod] at h
 | _ + 1, 0, _, _, _, _, _, hl => by simp [ltOf] at hl
 | fuel + 1, n + 1, t, cs, ls, ag, h, hl => by
  obtain ⟨x, h⟩ := h
  simp only [ltOf] at hl
  cases hu : P.underlying t with
  | none => simp [hu] at hl
  | some D =>
   rw [hu] at hl
   cases D with
   | bool =>
    simp only [Option.some.injEq, Prod.mk.injEq] at hl
    obtain ⟨rfl, rfl⟩ := hl
    obtain ⟨b, rfl⟩ := trod_bool hu h
    exact ⟨[.bool b], by simp [PTs, PT], RQs_one (by simp [RP]) rfl⟩
   | int k =>
    simp only [Option.some.injEq, Prod.mk.injEq] at hl
    obtain ⟨rfl, rfl⟩ := hl
    obtain ⟨m, rfl, h1, h2⟩ := trod_int hu h
    exact ⟨[.int k m], by simp [PTs, PT, h1, h2], RQs_one (by simp [RP]) rfl⟩
   | string =>
    simp only [Option.some.injEq, Prod.mk.injEq] at hl
    obtain ⟨rfl, rfl⟩ := hl
    obtain ⟨s, rfl, h1⟩ := trod_str hu h
    exact ⟨[.str s], by simp [PTs, PT, h1], RQs_one (by simp [RP]) rfl⟩
   | slice e =>
    simp only at hl
    split at hl
    · rename_i l1 ag1 he
      split at hl
      · rename_i hc
        simp only [Option.some.injEq, Prod.mk.injEq] at hl
        obtain ⟨rfl, rfl⟩ := hl
        rcases trod_slice hu h with rfl | ⟨a, len, cap, rfl, h1, h2, hel⟩
        · exact ⟨[.list []], by simp [PTs, PT], RQs_one (by simp [RP]) rfl⟩
        · have pos : 0 < P.cellsOf e := by
           rw [← hc.1]
           exact List.length_pos_iff.2 hc.2.1
          obtain ⟨xs, hxl, hxs⟩ := exists_list (p := fun i (x : PD) => (if ag1 then ∃ cs, x = .agg cs ∧ PTs l1 cs else PTs l1 [x]) ∧ ∃ es, w.cells? 0 (a.add (i * P.cellsOf e)) (P.cellsOf e) = some es ∧ RQs (rdW w) x.cells es) len (fun i hi => by
           obtain ⟨es, y, q1, q2⟩ := hel i hi
           obtain ⟨ys, q3, q4⟩ := trod_pt fuel n e es l1 ag1 ⟨y, q2⟩ he
           obtain ⟨x, q5, q6⟩ := elem_mk q3 hc.2.2
           exact ⟨x, q5, es, q1, by rw [q6]; exact q4⟩)
          have hcl : ∀ x ∈ xs, x.cells.length = P.cellsOf e := by
           intro x hx
           obtain ⟨i, hi⟩ := List.mem_iff_getElem?.1 hx
           obtain ⟨_, es, q1, q2⟩ := hxs i x hi
           rw [RQs_len q2, (cells_rd q1).1]
          refine ⟨[.list xs], ?_, ?_⟩
          · simp only [PTs, PT]
            refine ⟨.list xs, [], rfl, ⟨xs, rfl, by omega, fun x hx => ?_⟩, rfl⟩
            obtain ⟨i, hi⟩ := List.mem_iff_getElem?.1 hx
            exact (hxs i x hi).1
          · simp only [RQs]
            refine ⟨_, [], rfl, ?_, by simp [Value.oneCell'], rfl⟩
            simp only [RP]
            refine ⟨some a, cap, by rw [hxl], by omega, ?_⟩
            cases hx0 : xs with
            | nil => exact .inl rfl
            | cons x0 r =>
             rw [← hx0]
             refine .inr ?_
             obtain ⟨_, es0, q1, q2⟩ := hxs 0 x0 (by simp [hx0])
             obtain ⟨q3, q4⟩ := cells_rd q1
             have hlt : 0 < es0.length := by omega
             have hsp := spot_none (q4 0 _ (List.getElem?_eq_getElem hlt))
             simp only [Nat.zero_mul, add_zero'] at hsp
             obtain ⟨b, o, sp⟩ := a
             simp only at hsp
             subst hsp
             refine ⟨b, o, P.cellsOf e, rfl, pos, RPl_get.2 fun i x hi => ?_⟩
             obtain ⟨_, es, r1, r2⟩ := hxs i x hi
             refine ⟨hcl x (List.mem_of_getElem? hi), RPcs_get.2 fun j c hj => ?_⟩
             obtain ⟨v, s1, s2, s3⟩ := RQs_get r2 j c hj
             have s4 := (cells_rd r1).2 j v s1
             rw [add_off, add_off] at s4
             refine ⟨v, ?_, s2⟩
             unfold rdW
             rw [s4]
             simp [s3]
      · cases hl
    · cases hl
   | struct fs =>
    simp only at hl
    split at hl
    · rename_i l1 hf
      split at hl
      · rename_i hc
        simp only [Option.some.injEq, Prod.mk.injEq] at hl
        obtain ⟨rfl, rfl⟩ := hl
        obtain ⟨h1, xs, h2⟩ := trod_struct hu h
        obtain ⟨ys, q1, q2⟩ := fields_pt (P := P) (w := w) (tr := fun t cs => ∃ x, DataW.trod enc P w 0 (fun _ => true) true fuel t cs = some x) (n0 := n) (fun n' _ t cs ls ag hx hlt => trod_pt fuel n' t cs ls ag hx hlt) n (Nat.le_refl _) fs.toList 0 cs l1 hf (fun f hfm => by
         obtain ⟨i, hi⟩ := List.mem_iff_getElem?.1 hfm
         have := mapM_some_get h2 i f hi
         have hlt := (List.getElem?_eq_some_iff.1 hi).1
         have hl2 := mapM_some_length h2
         exact ⟨xs[i]'(by omega), by rw [this]; exact List.getElem?_eq_getElem _⟩) (by omega)
        exact ⟨ys, q1, by simpa using q2⟩
      · cases hl
    · cases hl
   | array m e =>
    simp only at hl
    split at hl
    · rename_i l1 ag1 he
      split at hl
      · rename_i hc
        simp only [Option.some.injEq, Prod.mk.injEq] at hl
        obtain ⟨rfl, rfl⟩ := hl
        obtain ⟨h1, xs, h2⟩ := trod_array hu h
        refine array_pt (tr := fun cs => ∃ x, DataW.trod enc P w 0 (fun _ => true) true fuel e cs = some x) hc.1 (fun cs hx => trod_pt fuel n e cs l1 ag1 hx he) m cs (by rw [h1, ← hc.2, hc.1]) (fun i hi => ?_)
        obtain ⟨y, q, _⟩ := range_mapM h2 i hi
        exact ⟨y, q⟩
      · cases hl
    · cases hl
   | _ => simp at hl
end read
variable [Globs]
def argEV : Bool → List PD → EV
 | true, xs => .agg (xs.map .p)
 | false, [x] => .p x
 | false, _ => .junk
def argsEV : List (List LT × Bool) → List (List PD) → List EV
 | l :: ls, xs :: r => argEV l.2 xs :: argsEV ls r
 | _, _ => []
def Typed : List (List LT × Bool) → List (List PD) → Prop
 | [], xss => xss = []
 | l :: ls, xss => ∃ xs r, xss = xs :: r ∧ PTs l.1 xs ∧ Typed ls r
theorem RQs_RVs {rd : Nat → Nat → Option Value} {g : Gh} (hg : g.rd = rd) {os : List Obj} : ∀ {xs : List PD} {vs : List Value}, RQs rd xs vs → RVs g os (xs.map .p) vs
 | [], vs, h => by simp [RQs] at h; subst h; simp [RVs]
 | x :: r, vs, h => by
  simp only [RQs] at h
  obtain ⟨v, s, rfl, h1, h2, h⟩ := h
  simp only [List.map_cons, RVs, RV]
  exact ⟨v, s, rfl, by rw [hg]; exact h1, RQs_RVs hg h⟩
theorem arg_rv {H : Type} {enc : TypeId × Value → H} {P : Program} {W : World} {base n : Nat} {t : TypeId} {v : Value} {d : DataW H} {ps : List MemPlace} {l : List LT × Bool} (hl : ltOf P n t = some l) (h : DataW.Trod enc P W 0 (fun _ => true) true t v d ps) (hv : Value.okWide P W .any base t v)
 {g : Gh} (hg : g.rd = rdW W) (os : List Obj) : ∃ xs, PTs l.1 xs ∧ RV g os (argEV l.2 xs) v := by
 obtain ⟨fuel, h⟩ := h
 obtain ⟨ls, ag⟩ := l
 obtain ⟨xs, h1, h2⟩ := trod_pt fuel n t _ ls ag ⟨_, h⟩ hl
 refine ⟨xs, h1, ?_⟩
 have flat : (∃ l, ls = [l]) → ag = false → (∀ cs, v ≠ .agg cs) → RV g os (argEV ag xs) v := by
  rintro ⟨l, rfl⟩ rfl hna
  obtain ⟨x, rfl, hx⟩ := PTs_one h1
  have hc : v.cells.toList = [v] := by
   cases v <;> first | rfl | exact absurd rfl (hna _)
  rw [hc] at h2
  simp only [RQs] at h2
  obtain ⟨u, s, e, q, _⟩ := h2
  cases e
  simp only [argEV, RV]
  rw [hg]
  exact q
 cases n with
 | zero => simp [ltOf] at hl
 | succ n =>
  simp only [ltOf] at hl
  unfold Value.okWide at hv
  cases hu : P.underlying t with
  | none => simp [hu] at hl
  | some D =>
   rw [hu] at hl hv
   have nag : ∀ {k : Prop}, (∀ cs, v = .agg cs → Cell.okWide P W .any base t v → False) → Cell.okWide P W .any base t v → ∀ cs, v ≠ .agg cs := fun h1 h2 cs e => h1 cs e h2
   cases D with
   | bool =>
    simp only [Option.some.injEq, Prod.mk.injEq] at hl
    exact flat ⟨_, hl.1.symm⟩ hl.2.symm (fun cs e => by subst e; simp [Cell.okWide, Cell.ok, hu] at hv)
   | int k =>
    simp only [Option.some.injEq, Prod.mk.injEq] at hl
    exact flat ⟨_, hl.1.symm⟩ hl.2.symm (fun cs e => by subst e; simp [Cell.okWide, Cell.ok, hu] at hv)
   | string =>
    simp only [Option.some.injEq, Prod.mk.injEq] at hl
    exact flat ⟨_, hl.1.symm⟩ hl.2.symm (fun cs e => by subst e; simp [Cell.okWide, Cell.ok, hu] at hv)
   | slice e =>
    simp only at hl
    split at hl
    · split at hl
      · simp only [Option.some.injEq, Prod.mk.injEq] at hl
        exact flat ⟨_, hl.1.symm⟩ hl.2.symm (fun cs e => by subst e; simp [Cell.okWide, Cell.ok, hu] at hv)
      · cases hl
    · cases hl
   | struct fs =>
    simp only at hl hv
    obtain ⟨cs, rfl, _, _⟩ := hv
    have : ag = true := by
     split at hl
     · split at hl
       · simp only [Option.some.injEq, Prod.mk.injEq] at hl; exact hl.2.symm
       · cases hl
     · cases hl
    subst this
    simp only [argEV, RV]
    exact ⟨cs, rfl, RQs_RVs hg h2⟩
   | array m e =>
    simp only at hl hv
    obtain ⟨cs, rfl, _, _⟩ := hv
    have : ag = true := by
     split at hl
     · split at hl
       · simp only [Option.some.injEq, Prod.mk.injEq] at hl; exact hl.2.symm
       · cases hl
     · cases hl
    subst this
    simp only [argEV, RV]
    exact ⟨cs, rfl, RQs_RVs hg h2⟩
   | _ => simp at hl
theorem args_rv {H : Type} {enc : TypeId × Value → H} {P : Program} {W : World} {base n : Nat} {g : Gh} (hg : g.rd = rdW W) (os : List Obj) : ∀ {ts : List TypeId} {vs : List Value} {ds : List (DataW H)} {ps : List MemPlace} {ls : List (List LT × Bool)}, mapO (ltOf P n) ts = some ls → DataW.TrodAll enc P W 0 (fun _ => true) true ts vs ds ps →
 (∀ (j : Nat) t v, ts[j]? = some t → vs[j]? = some v → Value.okWide P W .any base t v) → ∃ xss, Typed ls xss ∧ RVs g os (argsEV ls xss) vs ∧ ds.length = ts.length
 | [], [], [], ps, ls, hl, _, _ => by simp [mapO] at hl; subst hl; exact ⟨[], by simp [Typed], by simp [argsEV, RVs], rfl⟩
 | t :: ts, v :: vs, d :: ds, ps, ls, hl, h, hv => by
  obtain ⟨p, q, h1, h2, _⟩ := h
  obtain ⟨l, ls', hl1, hl2, rfl⟩ := mapO_cons hl
  obtain ⟨xs, q1, q2⟩ := arg_rv hl1 h1 (hv 0 t v rfl rfl) hg os
  obtain ⟨xss, r1, r2, r3⟩ := args_rv hg os hl2 h2 (fun j t v h1 h2 => hv (j + 1) t v (by simpa using h1) (by simpa using h2))
  refine ⟨xs :: xss, ?_, ?_, by simp [r3]⟩
  · simp only [Typed]; exact ⟨xs, xss, rfl, q1, r1⟩
  · simp only [argsEV, RVs]; exact ⟨v, vs, rfl, q2, r2⟩
 | [], _ :: _, _, _, _, _, h, _ => by cases h
 | [], [], _ :: _, _, _, _, h, _ => by cases h
 | _ :: _, [], _, _, _, _, h, _ => by cases h
 | _ :: _, _ :: _, [], _, _, _, h, _ => by cases h
theorem law_calls {S : SiteRel} {H : Type} {enc : TypeId × Value → H} {P : Program} {C : CallFn} (hC : CallOK P C) {f : FuncId} {fn : Func} (hf : P.funcs[f]? = some fn) (hb : fn.body.isSome = true) (hn : (fn.name == "runtime.NumGoroutine") = false) {n base : Nat} {ls : List (List LT × Bool)} (hl : mapO (ltOf P n) fn.params.toList = some ls)
 (hD : ∀ xss, Typed ls xss → C f (argsEV ls xss) ⟨[], 0⟩ = some (eB true, ⟨[], 0⟩)) {W : World} {args : Array Value} {ds : List (DataW H)} {ps : List MemPlace} (hA : DataW.TrodAll enc P W 0 (fun _ => true) true fn.params.toList args.toList ds ps)
 (hval : ∀ (j : Nat) t v, fn.params[j]? = some t → args[j]? = some v → Value.okWide P W .any base t v) (hgl : ∀ n cs, Globs.tab n = some cs → RPcs (rdW W) n 0 cs) :
 ds.length = fn.params.size ∧ Calls P f args W fun e W' => e = .returned (.bool true) ∧ Below W.heap.size W W' := by
 let g : Gh := ⟨rdW W, fun _ => none, fun _ => False, fun _ => False, fun _ => none⟩
 have hI : Inv W.heap.size W g [] W := by
  refine ⟨fun _ h => h.elim, Below.refl _ _, Nat.le_refl _, fun b o v h => ?_, fun _ _ h => (by cases h), fun _ _ _ _ _ _ _ h => (by cases h), fun _ _ _ _ h => (by cases h), fun _ _ _ _ _ _ h => (by cases h), fun _ _ _ _ _ _ h => (by cases h), fun _ _ _ _ _ h => (by cases h), fun _ h => h.elim, hgl, fun _ _ h => (by cases h), fun _ _ _ _ _ h => (by cases h)⟩
  simp only [g, rdW] at h
  split at h
  · split at h
    · rename_i hq h1
      cases h
      exact ⟨hq, h1⟩
    · cases h
  · cases h
 obtain ⟨xss, h1, h2, h3⟩ := args_rv (g := g) rfl [] hl hA (fun j t v h1 h2 => hval j t v (by simpa using h1) (by simpa using h2))
 obtain ⟨_, hE⟩ := hC.calls W.heap.size W W g [] 0 f _ _ _ _ hI h2 (hD xss h1)
 refine ⟨by simpa using h3, ?_⟩
 obtain ⟨c, hc⟩ := Option.isSome_iff_exists.1 hb
 have hrun : (callFunc f args).run P W = .ok (.enter f args) W := by
  have hn' : fn.name ≠ "runtime.NumGoroutine" := by simpa using hn
  simp [callFunc, hf, hn', hc]
 unfold Enters at hE
 simp only [Array.toArray_toList, hrun] at hE
 refine Calls.mono hE fun e w' q => ?_
 cases e with
 | returned v =>
  obtain ⟨g', q1, _, _, q4⟩ := q
  exact ⟨by rw [q4.bool], q1.low⟩
 | panicked c => exact q.elim
 | outgrown => exact q.elim
theorem trodAll_below {H : Type} {enc : TypeId × Value → H} {P : Program} (hl : laidOutB P = true) {W W' : World} (hb : Below W.heap.size W W') : ∀ {ts : List TypeId} {vs : List Value} {ds : List (DataW H)} {ps : List MemPlace}, (∀ t ∈ ts, P.readableRec t = true ∧ t < P.types.size) →
 DataW.TrodAll enc P W 0 (fun _ => true) true ts vs ds ps → (∀ x ∈ ps, x.block < W.heap.size) → DataW.TrodAll enc P W' 0 (fun b => decide (b < W.heap.size)) true ts vs ds ps
 | [], [], [], ps, _, h, _ => h
 | t :: ts, v :: vs, d :: ds, ps, ht, h, hlt => by
  obtain ⟨p, q, h1, h2, rfl⟩ := h
  exact ⟨p, q, Below.trod hl (ht t (by simp)).1 (ht t (by simp)).2 h1 hb (fun x hx => hlt x (by simp [hx])), trodAll_below hl hb (fun u hu => ht u (by simp [hu])) h2 (fun x hx => hlt x (by simp [hx])), rfl⟩
 | [], _ :: _, _, _, _, h, _ => by cases h
 | [], [], _ :: _, _, _, h, _ => by cases h
 | _ :: _, [], _, _, _, h, _ => by cases h
 | _ :: _, _ :: _, [], _, _, h, _ => by cases h
end Dk
namespace Dk
open Go Go.RowKit Go.ChangeShapes Go.WideShapes Go.ChangeAt
variable [Globs]
theorem law_post {H : Type} {enc : TypeId × Value → H} {P : Program} {f : Func} {s : ChangeSpec} {W W' : World} {args : Array Value} {ds gs : List (DataW H)} {before : List MemPlace}
 (hl : laidOutB P = true) (hts0 : (f.params.toList.all fun t => P.readableRec t && decide (t < P.types.size)) = true) {tb : TypeId} (hr : f.resultTypes = #[tb]) (hu : P.underlying tb = some .bool) (hv : s.vars = [])
 (hW : DataW.Whole enc P f.params.toList s.vars false W args.toList ds gs before) (hfn : gs = [] → s.fn H (ds ++ gs) = { results := [.lit (.bool true)], args := ds }) (hb : Below W.heap.size W W') :
 s.post enc P f false true false false W args (.bool true) W' := by
 have hts : ∀ t ∈ f.params.toList, P.readableRec t = true ∧ t < P.types.size := fun t ht => by
  have := List.all_eq_true.1 hts0 t ht
  simpa using this
 have hW' := hW
 obtain ⟨p, q, hA, hV, rfl, hfz, hnd⟩ := hW
 rw [hv] at hV
 obtain ⟨rfl, rfl⟩ := trodVars_none hV
 have e := hfn rfl
 have hlt : ∀ x ∈ p, x.block < W.heap.size := fun x hx => hW'.lt x (by simp [hx])
 refine ⟨ds, [], p ++ [], [], p, [], hW', ?_, ?_, ?_, hb.frame _, fun h => by cases h⟩
 · rw [e, hr]
   exact trodAll_cons_mk (shut_bool hu true) trodAll_mk0
 · rw [e]
   exact trodAll_below hl hb hts hA hlt
 · rw [e, hv]
   exact rfl
def noExt : CallFn → CallFn := fun _ _ _ _ => none
omit [Globs] in
theorem noExt_mono (C C' : CallFn) (_ : Sub C C') : Sub (noExt C) (noExt C') := fun _ _ _ _ h => h
theorem noExt_ok {S : SiteRel} (P : Program) : ExtOK P noExt := fun C _ _ =>
 ⟨⟨fun B w0 w g os lim f args vs r h' _ _ h => by simp [noExt] at h, fun B w0 w g os lim id l x y lo args vs r h' _ _ _ _ h => by simp [noExt] at h, fun B w0 w g os lim n args vs r h' _ _ _ h => by simp [noExt] at h, fun B w0 w g os lim n args vs r h' _ _ h => by simp [noExt] at h, fun B w0 w g os lim n args vs x u r h' _ _ _ _ h => by simp [noExt] at h⟩, fun f args h r h' q => by simp [noExt] at q⟩
def FnOK (P : Program) (n : Nat) (d : DFn) : Prop := @GoodFn _ (siteRel P) P n d
theorem fnOK {P : Program} (hm : P.follows .mixedOrders = true) {n : Nat} {fn : Func} {d : DFn} {plan : Nat → Option (List Nat)} {keeps : List (List Nat)} {share loc : Bool} (hf : P.funcs[n]? = some fn) (hn : (fn.name == "runtime.NumGoroutine") = false)
 (hc : compFn P (drawOf P fn.ntmps plan) keeps share loc fn = some { d with sha := false }) (hlt : n < defNo := by decide) : FnOK P n d :=
 @goodFn _ (siteRel P) P n d hlt fn _ keeps share loc hf hn (fun _ hC => @drawOf_ok _ (siteRel P) P _ hC hm _ _) (siteOK P _ _) hc
theorem progOK_nil (P : Program) : @ProgOK _ (siteRel P) P (progOf []) := fun f d h => by simp [progOf] at h
theorem progOK_cons {P : Program} {n : Nat} {d : DFn} {r : List (Nat × DFn)} (h : FnOK P n d) (hr : @ProgOK _ (siteRel P) P (progOf r)) : @ProgOK _ (siteRel P) P (progOf ((n, d) :: r)) := by
 intro f d' e
 simp only [progOf] at e
 split at e
 · rename_i hf
   cases e
   subst hf
   exact h
 · exact hr f d' e
theorem calls_ok {P : Program} (hm : P.follows .mixedOrders = true) {p : Prog} (hp : @ProgOK _ (siteRel P) P p) (hy : p yieldNo = none) : @CallOK _ (siteRel P) P (call p noExt) :=
 @call_ok _ (siteRel P) P p noExt hp hy (siteUse hm) (@noExt_ok _ (siteRel P) P) noExt_mono
end Dk
namespace Dk
open Go Go.RowKit
variable [Globs]
def isMay (l : List Nat) (f : Nat) : Bool := l.any (Nat.beq f)
theorem endOK {P : Program} (hm : P.follows .mixedOrders = true) {n m : Nat} {fn : Func} {d : DFn} {plan : Nat → Option (List Nat)} {keeps : List (List Nat)} (hf : P.funcs[n]? = some fn)
 (hc : compEnd P (drawOf P fn.ntmps plan) keeps fn = some d) (he : Nat.beq m (defNo + n) = true) : FnOK P m d :=
 Nat.eq_of_beq_eq_true he ▸ @goodEnd _ (siteRel P) P n d fn _ keeps hf (fun _ hC => @drawOf_ok _ (siteRel P) P _ hC hm _ _) (siteOK P _ _) hc
theorem mayOK {P : Program} (hm : P.follows .mixedOrders = true) {n m : Nat} {fn : Func} {d : DFn} {plan : Nat → Option (List Nat)} {M : Nat → Bool} {ty : Nat} {keeps : List (List Nat)} (hf : P.funcs[n]? = some fn) (hn : (fn.name == "runtime.NumGoroutine") = false)
 (hc : compMay P plan M ty keeps fn = some d) (he : Nat.beq m (mayNo + n) = true) : FnOK P m d :=
 Nat.eq_of_beq_eq_true he ▸ @goodMay _ (siteRel P) P hm n d fn plan M ty keeps hf hn hc
theorem catchMOK {P : Program} (hm : P.follows .mixedOrders = true) {n : Nat} {fn fg : Func} {d : DFn} {plan : Nat → Option (List Nat)} {M : Nat → Bool} {ty : Nat} {s : CSpec} {keeps : List (List Nat)} {share : Bool} (hf : P.funcs[n]? = some fn) (hn : (fn.name == "runtime.NumGoroutine") = false)
 (hfg : P.funcs[s.f]? = some fg) (hbg : fg.body.isSome = true) (hng : (fg.name == "runtime.NumGoroutine") = false) (hc : compCatchM P plan M ty s keeps share fn = some d) (hb1 : Nat.blt n defNo = true) (hb2 : Nat.blt s.f 1000000 = true) : FnOK P n d :=
 @goodCatchM _ (siteRel P) P hm n d (by simpa using hb1) fn fg plan M ty s keeps share hf hn (siteOK P _ _) hfg hbg hng (by simpa using hb2) hc
theorem panOK {P : Program} (hm : P.follows .mixedOrders = true) {n m : Nat} {fn : Func} {d : DFn} {plan : Nat → Option (List Nat)} {keeps : List (List Nat)} (hf : P.funcs[n]? = some fn)
 (hc : compPan P (drawOf P fn.ntmps plan) keeps fn = some d) (he : Nat.beq m (panNo + n) = true) : FnOK P m d :=
 Nat.eq_of_beq_eq_true he ▸ @goodPan _ (siteRel P) P n d fn _ keeps hf (fun _ hC => @drawOf_ok _ (siteRel P) P _ hC hm _ _) (siteOK P _ _) hc
end Dk
namespace Dk
open Go Go.RowKit
section
variable {P : Program}
theorem append_own2 (w : World) (t u ty e : TypeId) (i : TypeInfo) (ht : P.underlying t = some (.slice e)) (hu : P.underlying u = some .string) (hi : P.info? e = some i) (hz : i.zero = some (.int .u8 0))
 (hsize : i.size = 1) (hby : i.bytes = 1) (v : Value) (n : Nat) (xs : List Value) (hown : w.ownsRow 0 e 1 v n xs) (s : ByteArray) (hbytes : n + s.size ≤ 140737488355328) :
 ∃ v' w', (Builtin.append_ #[t, u] ty #[v, .string s]).run P w = .ok v' w' ∧ w'.ownsRow 0 e 1 v' (n + s.size) (xs ++ Lib.strCells s) ∧
  ((v'.ownBlock = v.ownBlock ∧ w.grownBy w' v.ownBlock) ∨ (∃ c, v'.ownBlock = some c ∧ w.heap.size ≤ c ∧ w.grownBy w' none)) := by
 have h63 : n + s.size ≤ maxLen := by unfold maxLen; omega
 obtain ⟨v', w', hr, h1, h2, h3⟩ := Lib.run_append_own_string (P := P) w 0 t u ty e i ht hu hi hz hsize hby v n xs hown s h63 hbytes (Nat.zero_le _)
 refine ⟨v', w', hr, h1, ?_⟩
 rcases hown.2 with ⟨rfl, hn0⟩ | ⟨g, cap, cur, rfl, hbg, hg, hnc, hcm, hcs, htake⟩
 · cases ho : v'.ownBlock with
   | none => exact .inl ⟨rfl, h2⟩
   | some c =>
    refine .inr ⟨c, rfl, ?_, h2⟩
    have hown' : w.ownsRow w.heap.size e 1 (.slice none 0 0) n xs := ⟨hown.1, .inl ⟨rfl, hn0⟩⟩
    obtain ⟨v2, w2, hr2, k1, _, _⟩ := Lib.run_append_own_string (P := P) w w.heap.size t u ty e i ht hu hi hz hsize hby _ n xs hown' s h63 hbytes (Nat.le_refl _)
    rw [hr] at hr2
    cases hr2
    rcases k1.2 with ⟨rfl, _⟩ | ⟨g, cap, cur, rfl, q, _⟩
    · cases ho
    · cases ho; exact q
 · have hcs' : cur.size = cap := by simpa using hcs
   by_cases hroom : n + s.size ≤ cap
   · have hr2 := Lib.run_append_room_string (P := P) w t u ty e i ht hu hi hsize g n cap cur hg s hroom (by omega)
     rw [hr] at hr2
     cases hr2
     exact .inl ⟨rfl, h2⟩
   · have hxl : xs.length = n := by simpa using hown.1
     have holds : ∀ j u, xs[j]? = some u → w.cell? ((⟨g, 0, none⟩ : Addr).add j) = some u := hown.cells (g := g) rfl
     have hr2 := Lib.run_append_grow_string (P := P) w t u ty e i (.int .u8 0) ht hu hi hz ⟨g, 0, none⟩ n cap xs (by rw [hsize]; simpa using hxl) holds s (by omega) (by omega) (by rw [hby]; exact growslice_fits (by omega) (by omega))
     rw [hr] at hr2
     cases hr2
     exact .inr ⟨_, rfl, Nat.le_refl _, rfl, rfl, rfl, by simp, fun k hk _ => heap_alloc_old w.drew _ hk⟩
theorem wpList_append2 (w : World) {ops : Array Oper} {rest : List Oper} {o : Oper} {a : Act} {Q : Exit → Act → World → Prop} (hgd : o.guard = none) (sl x : Operand) (t u : TypeId)
 (ho : o.op = .call { callee := .builtin .append, args := #[sl, x], argTypes := #[t, u] }) (e : TypeId) (i : TypeInfo) (ht : P.underlying t = some (.slice e)) (hu : P.underlying u = some .string) (hi : P.info? e = some i) (hz : i.zero = some (.int .u8 0))
 (hsize : i.size = 1) (hby : i.bytes = 1) (v : Value) (n : Nat) (xs : List Value) (hs : a.eval sl = v) (hown : w.ownsRow 0 e 1 v n xs) (s : ByteArray) (hx : a.eval x = .string s) (hbytes : n + s.size ≤ 140737488355328)
 (h : ∀ v' w', w'.ownsRow 0 e 1 v' (n + s.size) (xs ++ Lib.strCells s) → ((v'.ownBlock = v.ownBlock ∧ w.grownBy w' v.ownBlock) ∨ (∃ c, v'.ownBlock = some c ∧ w.heap.size ≤ c ∧ w.grownBy w' none)) → wpList P ops Q rest (a.put o.dst v') w') : wpList P ops Q (o :: rest) a w := by
 refine wpList_plain hgd fun K hK => ?_
 obtain ⟨v', w', hr, h2, h3⟩ := append_own2 (P := P) w t u o.type e i ht hu hi hz hsize hby v n xs hown s hbytes
 unfold Oper.wp execOp
 simp only [ho, resolve, invoke, builtin, Sem.run_bind, Sem.run_pure, Result.andThen_ok, List.map_toArray, List.map_cons, List.map_nil, hs, hx, hr]
 exact hK _ _ (h v' w' h2 h3)
theorem ownsRow_other {w w' : World} {e : TypeId} {v : Value} {n : Nat} {xs : List Value} (h : w.ownsRow 0 e 1 v n xs) (hs : ∀ c, v.ownBlock = some c → w'.heap[c]? = w.heap[c]?) : w'.ownsRow 0 e 1 v n xs := by
 refine ⟨h.1, ?_⟩
 rcases h.2 with q | ⟨c, cap, cur, rfl, q1, q2, q3⟩
 · exact .inl q
 · exact .inr ⟨c, cap, cur, rfl, q1, (hs c rfl).trans q2, q3⟩
theorem own_lt {w : World} {e : TypeId} {v : Value} {n : Nat} {xs : List Value} (h : w.ownsRow 0 e 1 v n xs) {c : Nat} (q : v.ownBlock = some c) : c < w.heap.size := by
 rcases h.2 with ⟨rfl, _⟩ | ⟨c', cap, cur, rfl, _, q2, _⟩
 · cases q
 · cases q
   exact (Array.getElem?_eq_some_iff.1 q2).1
theorem setCell_heap (w : World) (b o : Nat) (x : Value) {cs : Array Value} {T : TypeId} {fr : Nat × Nat} (h : w.heap[b]? = some (.cells cs T fr)) : (w.setCell ⟨b, o, none⟩ x).heap[b]? = some (.cells (cs.setIfInBounds o x) T fr) := by
 simp [World.setCell, Array.getElem?_modify, h]
theorem Chg.setCell (w : World) (b o : Nat) (x : Value) : Chg w (w.setCell ⟨b, o, none⟩ x) b := by
 refine ⟨rfl, rfl, rfl, by simp [World.setCell], fun k _ hk => ?_⟩
 simp [World.setCell, Array.getElem?_modify, Ne.symm hk]
theorem Chg.same (w : World) (b : Nat) : Chg w w b := ⟨rfl, rfl, rfl, Nat.le_refl _, fun _ _ _ => rfl⟩
def BwIs (P : Program) (f : FuncId) (T e : TypeId) : Prop :=
 ∀ (b : Nat) (p v : Value) (n : Nat) (bs : List Value) (s : ByteArray) (w : World), (p = .pointer none ∨ p = .pointer (some ⟨b, 0, none⟩)) → w.heap[b]? = some (.cells #[p, v] T (0, 0)) → w.ownsRow 0 e 1 v n bs → n + s.size ≤ 140737488355328 → v.ownBlock ≠ some b →
  Calls P f #[.pointer (some ⟨b, 0, none⟩), .string s] w fun r w' => r = .returned (.tuple #[.int .i64 s.size, .nilIface]) ∧
   ∃ w1 w2 v', (w1 = w ∨ w1 = w.setCell ⟨b, 0, none⟩ (.pointer (some ⟨b, 0, none⟩))) ∧ w1.heap[b]? = some (.cells #[.pointer (some ⟨b, 0, none⟩), v] T (0, 0)) ∧
    w2.ownsRow 0 e 1 v' (n + s.size) (bs ++ Lib.strCells s) ∧ ((v'.ownBlock = v.ownBlock ∧ w1.grownBy w2 v.ownBlock) ∨ (∃ c, v'.ownBlock = some c ∧ w1.heap.size ≤ c ∧ w1.grownBy w2 none)) ∧ w' = w2.setCell ⟨b, 1, none⟩ v'
def BsIs (P : Program) (f : FuncId) (T e : TypeId) : Prop :=
 ∀ (b : Nat) (p v : Value) (s : ByteArray) (w : World), w.heap[b]? = some (.cells #[p, v] T (0, 0)) → w.ownsRow 0 e 1 v s.size (Lib.strCells s) → s.size ≠ 0 →
  Calls P f #[.pointer (some ⟨b, 0, none⟩)] w fun r w' => r = .returned (.string s) ∧ ∃ c, v.ownBlock = some c ∧ w' = w.drew.freeze ⟨c, 0, none⟩ s.size
end
section
variable [Globs] [SiteRel] {P : Program} {B : Nat} {w0 w w' : World} {g : Gh} {os : List Dk.Obj}
theorem strCells_append (a b : ByteArray) : Lib.strCells (a ++ b) = Lib.strCells a ++ Lib.strCells b := by
 simp [Lib.strCells, ByteArray.toList_data_append]
theorem Inv.grew (hI : Inv B w0 g os w) (h : w.grownBy w' none) : Inv B w0 g os w' := by
 have hc : Chg w w' w.heap.size := ⟨h.os, h.tape, h.output, h.size, fun k hk _ => h.block k hk (by simp)⟩
 exact hI.away (d := g.df) hc hI.base (.inl (Nat.le_refl _)) fun x hx => by
  obtain ⟨h1, h2⟩ := hI.defs x hx
  have hlt := (Array.getElem?_eq_some_iff.1 h2).1
  exact ⟨h1, (h.block x hlt (by simp)).trans h2⟩
theorem kept_buf (lim : Nat) (g : Gh) (os : List Dk.Obj) (c b : Nat) : Kept lim g os (g.buf c b) os := ⟨fun _ _ => ⟨fun h => ⟨h, rfl⟩, fun _ h => h⟩, fun _ h => h⟩
theorem buf_bf (g : Gh) (c b : Nat) : (g.buf c b).bf c = some b := by simp [Gh.buf]
theorem bwrite_ok {f : FuncId} (K : BwIs P f Globs.bld Globs.byt) (hI : Inv B w0 g os w) {x s : EV} {vx vs : Value} (hx : RV g os x vx) (hs : RV g os s vs) {L : Nat} {r : EV} {h' : Hp} (h : bwrite x s ⟨os, L⟩ = some (r, h')) :
 h'.lim = L ∧ Calls P f #[vx, vs] w fun z w' => ∃ u, z = .returned u ∧ Went L B w0 g os h'.objs r u w' := by
 unfold bwrite at h
 split at h
 · rename_i id t
   split at h
   · rename_i b0 ho
     split at h
     · rename_i hc
       cases h
       refine ⟨rfl, ?_⟩
       have ho : os[id]? = some (.bld (some b0)) := ho
       have hlt := (List.getElem?_eq_some_iff.1 ho).1
       simp only [RV] at hx
       obtain ⟨b, x, y, s0, rfl, hp, _⟩ := hx
       have hs : vs = .string t := by simpa [RV, RP] using hs
       subst hs
       obtain ⟨_, hrd, hB⟩ := hI.blds id _ b x y ho hp
       obtain ⟨p, v, hpv, hb, hown, hbf⟩ := hB b0 rfl
       have hneb : v.ownBlock ≠ some b := fun q => (hI.bfok b b (hbf b q)).2.2.1 _ _ _ _ hp rfl
       refine (K b p v b0.size _ t w hpv hb hown hc.1 hneb).mono ?_
       rintro z w' ⟨rfl, w1, w2, v', hw1, hb1, hown2, hcase, rfl⟩
       refine ⟨_, rfl, ?_⟩
       have c1 : Chg w w1 b := by
        rcases hw1 with rfl | rfl
        · exact Chg.same _ _
        · exact Chg.setCell _ _ _ _
       have hBb := hI.high id b x y hp
       have hbl1 : b < w1.heap.size := (Array.getElem?_eq_some_iff.1 hb1).1
       -- the row is taken out of D's hands
       have hE1 := Ext.setBld (lo' := none) ho hp
       have hset : (os.set id (.bld none))[id]? = some (.bld none) := List.getElem?_set_self hlt
       have I1 : Inv B w0 (g.at id (b, x, y)) (os.set id (.bld none)) w1 := hI.upd c1 hbl1 hBb (.inl ⟨x, y, hp⟩) (fun i hi => List.getElem?_set_ne (Ne.symm hi)) hset hE1 (fun o v hv => by rw [hrd o] at hv; cases hv) ⟨⟨_, hb1⟩, hrd, fun t ht => by cases ht⟩
       have K1 : Kept L g os (g.at id (b, x, y)) (os.set id (.bld none)) := kept_ph hI hp _ _
       have hp1 : (g.at id (b, x, y)).ph id = some (b, x, y) := Gh.at_same _ _ _
       -- its buffer goes on
       have step : ∃ g2, Inv B w0 g2 (os.set id (.bld none)) w2 ∧ Ext (g.at id (b, x, y)) (os.set id (.bld none)) g2 (os.set id (.bld none)) ∧ Kept L (g.at id (b, x, y)) (os.set id (.bld none)) g2 (os.set id (.bld none)) ∧ g2.ph id = some (b, x, y) ∧ g2.rd = g.rd ∧ (∀ c, v'.ownBlock = some c → g2.bf c = some b) ∧ w2.heap[b]? = w1.heap[b]? := by
        rcases hcase with ⟨hsame, hgr⟩ | ⟨c, hc', hge, hgr⟩
        · cases hv : v.ownBlock with
          | none =>
           rw [hv] at hgr hsame
           exact ⟨_, I1.grew hgr, Ext.refl _ _, Kept.refl _ _ _, hp1, rfl, fun c q => (by rw [hsame] at q; cases q), hgr.block b hbl1 (by simp)⟩
          | some c =>
           rw [hv] at hgr hsame
           have hcb := hbf c hv
           have hcc : ∃ arr fz, w2.heap[c]? = some (.cells arr Globs.byt fz) := by
            rcases hown2.2 with ⟨rfl, _⟩ | ⟨c', cap, cur, rfl, _, q, _⟩
            · cases hsame
            · cases hsame
              exact ⟨_, _, q⟩
           have I2 := I1.buf (w' := w2) (c := c) hp1 hset ⟨hgr.os, hgr.tape, hgr.output, hgr.size, fun k hk hkc => hgr.block k hk (fun q => hkc (Option.some.inj q))⟩ hcc (hI.bfok c b hcb).1 (.inl hcb)
           exact ⟨_, I2, Ext.buf _ _ _ _, kept_buf _ _ _ _ _, hp1, rfl, fun c' q => (by rw [hsame] at q; cases q; exact buf_bf _ _ _), hgr.block b hbl1 (fun q => (hI.bfok c b hcb).2.2.1 _ _ _ _ hp (Option.some.inj q))⟩
        · have hcc : ∃ arr fz, w2.heap[c]? = some (.cells arr Globs.byt fz) := by
           rcases hown2.2 with ⟨rfl, _⟩ | ⟨c', cap, cur, rfl, _, q, _⟩
           · cases hc'
           · cases hc'
             exact ⟨_, _, q⟩
          have I2 := I1.buf (w' := w2) (c := c) hp1 hset ⟨hgr.os, hgr.tape, hgr.output, hgr.size, fun k hk _ => hgr.block k hk (by simp)⟩ hcc (Nat.le_trans I1.base hge) (.inr hge)
          exact ⟨_, I2, Ext.buf _ _ _ _, kept_buf _ _ _ _ _, hp1, rfl, fun c' q => (by rw [hc'] at q; cases q; exact buf_bf _ _ _), hgr.block b hbl1 (by simp)⟩
       obtain ⟨g2, I2, E2, K2, hp2, hrd2, hbf2, hb2⟩ := step
       have hb2' := hb2.trans hb1
       have hbl2 := (Array.getElem?_eq_some_iff.1 hb2').1
       have hb3 := setCell_heap w2 b 1 v' hb2'
       have hE3 := Ext.setBld (lo' := some (b0 ++ t)) hset hp2
       have hset3 : ((os.set id (.bld none)).set id (.bld (some (b0 ++ t))))[id]? = some (.bld (some (b0 ++ t))) := List.getElem?_set_self (by simpa using hlt)
       have hneb' : ∀ c, v'.ownBlock = some c → c ≠ b := fun c q e => by subst e; exact (I2.bfok c c (hbf2 c q)).2.2.1 _ _ _ _ hp2 rfl
       have I3 : Inv B w0 (g2.at id (b, x, y)) ((os.set id (.bld none)).set id (.bld (some (b0 ++ t)))) (w2.setCell ⟨b, 1, none⟩ v') := by
        refine I2.upd (Chg.setCell w2 b 1 v') (Array.getElem?_eq_some_iff.1 hb3).1 hBb (.inl ⟨x, y, hp2⟩) (fun i hi => List.getElem?_set_ne (Ne.symm hi)) hset3 hE3 (fun o v hv => by rw [hrd2, hrd o] at hv; cases hv) ⟨⟨_, hb3⟩, fun o => by rw [hrd2]; exact hrd o, fun u hu => ?_⟩
        cases hu
        refine ⟨_, v', .inr rfl, hb3, ?_, hbf2⟩
        have := ownsRow_other (w' := w2.setCell ⟨b, 1, none⟩ v') hown2 fun c q => (Chg.setCell w2 b 1 v').other c (I2.bflt (hbf2 c q)) (hneb' c q)
        rw [strCells_append, ByteArray.size_append]
        exact this
       have K3 : Kept L g2 (os.set id (.bld none)) (g2.at id (b, x, y)) ((os.set id (.bld none)).set id (.bld (some (b0 ++ t)))) := kept_ph I2 hp2 _ _
       have hEE := (hE1.trans E2).trans hE3
       have hKK := ((K1.trans hE1 K2).trans (hE1.trans E2) K3)
       rw [List.set_set] at I3 hEE hKK
       exact ⟨_, I3, hEE, hKK, _, rfl, _, _, rfl, rfl, _, _, rfl, rfl, rfl⟩
     · cases h
   · cases h
 · cases h
theorem Chg.freeze (w : World) (c n : Nat) : Chg w (w.freeze ⟨c, 0, none⟩ n) c := by
 unfold World.freeze
 split
 · exact Chg.same _ _
 · refine ⟨rfl, rfl, rfl, by simp, fun k _ hk => ?_⟩
   simp [Array.getElem?_modify, Ne.symm hk]
theorem freeze_heap (w : World) (c n : Nat) {cs : Array Value} {T : TypeId} (h : w.heap[c]? = some (.cells cs T (0, 0))) : ∃ arr fz, (w.freeze ⟨c, 0, none⟩ n).heap[c]? = some (.cells arr T fz) := by
 unfold World.freeze
 split
 · exact ⟨_, _, h⟩
 · exact ⟨cs, (0, 0 + n), by simp [Array.getElem?_modify, h]⟩
theorem btext_ok {f : FuncId} (K : BsIs P f Globs.bld Globs.byt) (hI : Inv B w0 g os w) {x : EV} {vx : Value} (hx : RV g os x vx) {L : Nat} {r : EV} {h' : Hp} (h : btext x ⟨os, L⟩ = some (r, h')) :
 h'.lim = L ∧ Calls P f #[vx] w fun z w' => ∃ u, z = .returned u ∧ Went L B w0 g os h'.objs r u w' := by
 unfold btext at h
 split at h
 · rename_i id
   split at h
   · rename_i b0 ho
     split at h
     · rename_i hc
       cases h
       refine ⟨rfl, ?_⟩
       have ho : os[id]? = some (.bld (some b0)) := ho
       have hlt := (List.getElem?_eq_some_iff.1 ho).1
       simp only [RV] at hx
       obtain ⟨b, x, y, s0, rfl, hp, _⟩ := hx
       obtain ⟨_, hrd, hB⟩ := hI.blds id _ b x y ho hp
       obtain ⟨p, v, hpv, hb, hown, hbf⟩ := hB b0 rfl
       refine (K b p v b0 w hb hown hc.1).mono ?_
       rintro z w' ⟨rfl, c, hv, rfl⟩
       refine ⟨_, rfl, ?_⟩
       have hcb := hbf c hv
       have hE1 := Ext.setBld (lo' := none) ho hp
       have hset : (os.set id (.bld none))[id]? = some (.bld none) := List.getElem?_set_self hlt
       have hbd : w.drew.heap[b]? = some (.cells #[p, v] Globs.bld (0, 0)) := hb
       have I1 : Inv B w0 (g.at id (b, x, y)) (os.set id (.bld none)) w.drew := hI.drew.upd (Chg.same _ _) (Array.getElem?_eq_some_iff.1 hbd).1 (hI.high id b x y hp) (.inl ⟨x, y, hp⟩) (fun i hi => List.getElem?_set_ne (Ne.symm hi)) hset hE1 (fun o v hv => by rw [hrd o] at hv; cases hv) ⟨⟨_, hbd⟩, hrd, fun t ht => by cases ht⟩
       have K1 : Kept L g os (g.at id (b, x, y)) (os.set id (.bld none)) := kept_ph hI hp _ _
       have hp1 : (g.at id (b, x, y)).ph id = some (b, x, y) := Gh.at_same _ _ _
       have hcc : ∃ arr fz, (w.drew.freeze ⟨c, 0, none⟩ b0.size).heap[c]? = some (.cells arr Globs.byt fz) := by
        rcases hown.2 with ⟨rfl, _⟩ | ⟨c', cap, cur, rfl, _, q, _⟩
        · cases hv
        · cases hv
          exact freeze_heap _ _ _ q
       have I2 := I1.buf (c := c) hp1 hset (Chg.freeze _ _ _) hcc (hI.bfok c b hcb).1 (.inl hcb)
       exact ⟨_, I2, hE1.trans (Ext.buf _ _ _ _), K1.trans hE1 (kept_buf _ _ _ _ _), rfl⟩
     · cases h
   · cases h
 · cases h
def bwD : DFn := ⟨2, .seq (.ops [⟨some 2, .bwr (.t 0) (.t 1), none, []⟩]) .ret, [.tmp 2], false, false, false⟩
def bsD : DFn := ⟨1, .seq (.ops [⟨some 2, .bstr (.t 0), none, []⟩]) .ret, [.tmp 2], false, false, false⟩
theorem bw_exec {C : CallFn} {fr : Fr} {h : Hp} {e : Ex} {fr1 : Fr} {h1 : Hp} (hx : exec C bwD.body (fr, h) = some (e, fr1, h1)) : e = .ret ∧ ∃ r, bwrite (fr.get 0) (fr.get 1) h = some (r, h1) ∧ fr1.get 2 = r := by
 have k : runStep C ⟨some 2, .bwr (.t 0) (.t 1), none, []⟩ fr h = (bwrite (fr.get 0) (fr.get 1) h).map fun p => ((2, p.1) :: fr, p.2) := by
  simp only [runStep, runOp, DOp.kind, act, X.ev]
  cases bwrite (fr.get 0) (fr.get 1) h <;> simp [still, Fr.put]
 simp only [bwD, exec, runSteps, k] at hx
 cases hb : bwrite (fr.get 0) (fr.get 1) h with
 | none => rw [hb] at hx; simp at hx
 | some p =>
  rw [hb] at hx
  simp only [Option.map_some, Option.some.injEq, Prod.mk.injEq] at hx
  obtain ⟨rfl, rfl, rfl⟩ := hx
  exact ⟨rfl, _, rfl, by simp [Fr.get]⟩
theorem bs_exec {C : CallFn} {fr : Fr} {h : Hp} {e : Ex} {fr1 : Fr} {h1 : Hp} (hx : exec C bsD.body (fr, h) = some (e, fr1, h1)) : e = .ret ∧ ∃ r, btext (fr.get 0) h = some (r, h1) ∧ fr1.get 2 = r := by
 have k : runStep C ⟨some 2, .bstr (.t 0), none, []⟩ fr h = (btext (fr.get 0) h).map fun p => ((2, p.1) :: fr, p.2) := by
  simp only [runStep, runOp, DOp.kind, act, X.ev]
  cases btext (fr.get 0) h <;> simp [still, Fr.put]
 simp only [bsD, exec, runSteps, k] at hx
 cases hb : btext (fr.get 0) h with
 | none => rw [hb] at hx; simp at hx
 | some p =>
  rw [hb] at hx
  simp only [Option.map_some, Option.some.injEq, Prod.mk.injEq] at hx
  obtain ⟨rfl, rfl, rfl⟩ := hx
  exact ⟨rfl, _, rfl, by simp [Fr.get]⟩
theorem goodBw {f : Nat} (hlt : f < defNo) {fn : Func} (hf : P.funcs[f]? = some fn) (hb : fn.body.isSome = true) (hn : (fn.name == "runtime.NumGoroutine") = false) (K : BwIs P f Globs.bld Globs.byt) : GoodFn P f bwD := by
 refine ⟨fun C ih ihp B w0 w g os lim args vs r h' hI hv h => ?_, fun C ih ihp B w0 w g os lim n args vs r h' e => by omega, fun C ih ihp B w0 w g os lim n args vs r h' e => by simp only [defNo, mayNo] at *; omega, fun C ih ihp B w0 w g os lim n args vs x u r h' e => by simp only [defNo, panNo] at *; omega⟩
 have hb0 : body C bwD args ⟨os, lim⟩ = body0 C bwD args ⟨os, lim⟩ := rfl
 rw [hb0] at h
 simp only [body0] at h
 split at h
 · rename_i hlen
   obtain ⟨e, s, rfl⟩ : ∃ e s, args = [e, s] := by
    match args, hlen with
    | [e, s], _ => exact ⟨e, s, rfl⟩
   obtain ⟨v, ws, rfl, hv1, v2, ws2, rfl, hv2, hv3⟩ := hv
   have hv3 : ws2 = [] := hv3
   subst hv3
   split at h
   · cases h
   · rename_i ex fr1 h1 hne hex
     obtain ⟨rfl, r1, hw, hr1⟩ := bw_exec (fr := args0 0 [e, s]) (h := ⟨os, lim⟩) hex
     obtain ⟨hl, hC⟩ := bwrite_ok K hI hv1 hv2 (L := lim) hw
     have hr : (some (fr1.get 2, (⟨h1.objs, lim⟩ : Hp))) = some (r, h') := h
     cases hr
     refine ⟨rfl, ?_⟩
     obtain ⟨c, hc⟩ := Option.isSome_iff_exists.1 hb
     have hrun : (callFunc f [v, v2].toArray).run P w = .ok (.enter f [v, v2].toArray) w := by
      have hn' : fn.name ≠ "runtime.NumGoroutine" := by simpa using hn
      simp [callFunc, hf, hn', hc]
     unfold Enters
     rw [hrun]
     refine Calls.mono hC fun z w' p => ?_
     obtain ⟨u, rfl, q⟩ := p
     rw [hr1]
     exact q
   · cases h
 · cases h
theorem goodBs {f : Nat} (hlt : f < defNo) {fn : Func} (hf : P.funcs[f]? = some fn) (hb : fn.body.isSome = true) (hn : (fn.name == "runtime.NumGoroutine") = false) (K : BsIs P f Globs.bld Globs.byt) : GoodFn P f bsD := by
 refine ⟨fun C ih ihp B w0 w g os lim args vs r h' hI hv h => ?_, fun C ih ihp B w0 w g os lim n args vs r h' e => by omega, fun C ih ihp B w0 w g os lim n args vs r h' e => by simp only [defNo, mayNo] at *; omega, fun C ih ihp B w0 w g os lim n args vs x u r h' e => by simp only [defNo, panNo] at *; omega⟩
 have hb0 : body C bsD args ⟨os, lim⟩ = body0 C bsD args ⟨os, lim⟩ := rfl
 rw [hb0] at h
 simp only [body0] at h
 split at h
 · rename_i hlen
   obtain ⟨e, rfl⟩ : ∃ e, args = [e] := by
    match args, hlen with
    | [e], _ => exact ⟨e, rfl⟩
   obtain ⟨v, ws, rfl, hv1, hv3⟩ := hv
   have hv3 : ws = [] := hv3
   subst hv3
   split at h
   · cases h
   · rename_i ex fr1 h1 hne hex
     obtain ⟨rfl, r1, hw, hr1⟩ := bs_exec (fr := args0 0 [e]) (h := ⟨os, lim⟩) hex
     obtain ⟨hl, hC⟩ := btext_ok K hI hv1 (L := lim) hw
     have hr : (some (fr1.get 2, (⟨h1.objs, lim⟩ : Hp))) = some (r, h') := h
     cases hr
     refine ⟨rfl, ?_⟩
     obtain ⟨c, hc⟩ := Option.isSome_iff_exists.1 hb
     have hrun : (callFunc f [v].toArray).run P w = .ok (.enter f [v].toArray) w := by
      have hn' : fn.name ≠ "runtime.NumGoroutine" := by simpa using hn
      simp [callFunc, hf, hn', hc]
     unfold Enters
     rw [hrun]
     refine Calls.mono hC fun z w' p => ?_
     obtain ⟨u, rfl, q⟩ := p
     rw [hr1]
     exact q
   · cases h
 · cases h
end
section
variable [Globs]
theorem bwOK {P : Program} {n : Nat} {fn : Func} (hf : P.funcs[n]? = some fn) (hb : fn.body.isSome = true) (hn : (fn.name == "runtime.NumGoroutine") = false) (K : BwIs P n Globs.bld Globs.byt) (hb1 : Nat.blt n defNo = true) : FnOK P n bwD :=
 @goodBw _ (siteRel P) P n (by simpa using hb1) fn hf hb hn K
theorem bsOK {P : Program} {n : Nat} {fn : Func} (hf : P.funcs[n]? = some fn) (hb : fn.body.isSome = true) (hn : (fn.name == "runtime.NumGoroutine") = false) (K : BsIs P n Globs.bld Globs.byt) (hb1 : Nat.blt n defNo = true) : FnOK P n bsD :=
 @goodBs _ (siteRel P) P n (by simpa using hb1) fn hf hb hn K
end
end Dk
namespace Dk
open Go
theorem cells_of_strs {H : Type} {enc : TypeId × Value → H} {P : Program} {w : World} {base : Nat} {sp : Nat → Bool} {held : Bool} {fuel : Nat} {t e : TypeId} {n : Nat} {cs : List Value} {zs : List (List UInt8)} {p : List MemPlace}
 (ht : P.underlying t = some (.array n e)) (he : P.underlying e = some .string) (hce : P.cellsOf e = 1) (hct : P.cellsOf t = n)
 (h : DataW.trod enc P w base sp held fuel t cs = some (.agg (zs.map fun z => .lit (.string z)), p)) : cs = zs.map fun z => Value.string ⟨z.toArray⟩ := by
 cases fuel with
 | zero => simp [DataW.trod] at h
 | succ fuel =>
  simp only [DataW.trod, ht, hce, hct, Nat.mul_one] at h
  split at h
  · rename_i hl
    obtain ⟨xs, hm, hx⟩ := Option.map_eq_some_iff.1 h
    have hxs : xs.map (·.1) = zs.map fun z => (DataW.lit (.string z) : DataW H) := by
     have := congrArg Prod.fst hx
     simpa using this
    have hxl : xs.length = n := by simpa using Lib.mapM_length hm
    have hzl : zs.length = n := by
     have := congrArg List.length hxs
     simp at this
     omega
    apply List.ext_getElem?
    intro i
    by_cases hi : i < n
    · obtain ⟨b, hb, hf⟩ := Lib.mapM_at hm i i (by simp [hi])
      obtain ⟨z, hc, rfl, _⟩ := DataW.trod_string he hf
      have h1 : cs[i]? = some (.string z) := by
       have := congrArg (·[0]?) hc
       simpa [List.getElem?_take, List.getElem?_drop] using this
      have h2 : (xs.map (·.1))[i]? = some (DataW.lit (.string z.data.toList) : DataW H) := by simp [hb]
      rw [hxs] at h2
      simp only [List.getElem?_map, Option.map_eq_some_iff, DataW.lit.injEq, Lit.string.injEq] at h2
      obtain ⟨z', hz', e'⟩ := h2
      subst e'
      simp [h1, hz']
    · rw [List.getElem?_eq_none (by omega), List.getElem?_eq_none (by simp; omega)]
  · cases h
theorem laid_strs {P : Program} {W : World} {name : String} {zs : List (List UInt8)} {rest : List (String × DataW Unit)} {ps : List MemPlace} {g : Nat} {t e : TypeId} {n : Nat}
 (hg : P.globalNamed name = some g) (hty : (P.globals[g]?).map (·.type) = some t) (ht : P.underlying t = some (.array n e)) (he : P.underlying e = some .string) (hce : P.cellsOf e = 1) (hct : P.cellsOf t = n)
 (h : DataW.LaidVars P W ((name, .agg (zs.map fun z => .lit (.string z))) :: rest) ps) : W.var? P name = some (zs.map fun z => Value.string ⟨z.toArray⟩).toArray := by
 obtain ⟨g', t', cs, fuel, p, q, hg', ht', hvar, hd, _, _⟩ := h
 obtain rfl := Option.some.inj (hg.symm.trans hg')
 obtain rfl := Option.some.inj (hty.symm.trans ht')
 rw [hvar, ← cells_of_strs ht he hce hct hd]
theorem laid_tail {P : Program} {W : World} {x : String × DataW Unit} {rest : List (String × DataW Unit)} {ps : List MemPlace} (h : DataW.LaidVars P W (x :: rest) ps) : ∃ qs, DataW.LaidVars P W rest qs := by
 obtain ⟨n, d⟩ := x
 obtain ⟨_, _, _, _, _, q, _, _, _, _, h, _⟩ := h
 exact ⟨q, h⟩
theorem change_and_shaped {H : Type} {enc : TypeId × Value → H} {a : Assume} {C : Checked} {os : Os} {f : FuncId} {fn : Func} {s : ChangeSpec} {conds : List PathCond} {apart fresh handsOn again : Bool} {X : World → Array Value → Prop}
 (hX : ∀ (w w' : World) (args : Array Value), w.heap = w'.heap → X w args → X w' args)
 (own : ownKnob C.prog.godebug = none) (started : os.Started) (noInit : C.prog.inits.idxOf? f = none) (hfn : C.prog.funcs[f]? = some fn)
 (witness : ∃ (w : World) (tape : Tape) (i : Input), w.os = os ∧ (w.forCall tape i).Shaped C.prog ∧ i.vars = [] ∧ Input.okWide C.prog (w.forCall tape i) .any w.heap.size f i ∧
  ((s.pre enc C.prog fn conds apart (w.forCall tape i).memory i.args ∧ X (w.forCall tape i).memory i.args) ∧ sizedMet enc C.prog fn (OpenSpec.ofChange s) apart (w.forCall tape i).memory i.args) ∧ a.holds C.prog (lone (Frame.enter C.prog f i.args .normal) [] (w.forCall tape i)))
 (contract : ∀ (W : World) (base : Nat) (args : Array Value) (ds gs : List (DataW H)) (before : List MemPlace),
  (∀ (j : Nat) t v, fn.params[j]? = some t → args[j]? = some v → Value.okWide C.prog W .any base t v) →
  DataW.Whole enc C.prog fn.params.toList s.vars apart W args.toList ds gs before →
  conds.all (PathCond.test C.prog ⟨fn.params.toList, ds, s.plain.varTypes C.prog, gs⟩) = true →
  (DataW.weightsEach C.prog (fn.params.toList ++ s.plain.varTypes C.prog) (ds ++ gs)).all (· ≤ reachBytes) = true → X W args → W.ShapedOpen C.prog →
  a.holds C.prog (lone (Frame.enter C.prog f args .normal) [] W) →
  Calls C.prog f args W fun e W' => ∃ v, e = .returned v ∧ s.post enc C.prog fn apart fresh handsOn again W args v W') :
 ReturnsInHanded a C os f .any (fun w args => (s.pre enc C.prog fn conds apart w args ∧ X w args) ∧ sizedMet enc C.prog fn (OpenSpec.ofChange s) apart w args) (s.post enc C.prog fn apart fresh handsOn again) := by
 refine returnsInHanded_of_calls own started noInit witness ?_
 intro w tape i _ hsh _ hok hpre hholds
 obtain ⟨_, _, _, fn', hfn', _, _, _, _, hval⟩ := hok
 have e : fn' = fn := Option.some.inj (hfn'.symm.trans hfn)
 subst e
 obtain ⟨⟨⟨ds, gs, before, hw, hc⟩, hx⟩, hz⟩ := hpre
 have hw' := DataW.Whole.of_heap (w' := w.forCall tape i) (by rfl) hw
 refine (contract (w.forCall tape i) w.heap.size i.args ds gs before hval hw' hc (hz.weights hw) (hX _ _ _ (by rfl) hx) hsh hholds).mono fun e W' ⟨v, he, hp⟩ => ?_
 subst he
 exact ChangeSpec.post_blind hp
theorem strs_known {W : World} {g : Nat} : ∀ (zs : List (List UInt8)) (o : Nat), (∀ j z, zs[j]? = some z → W.cell? ⟨g, o + j, none⟩ = some (.string ⟨z.toArray⟩)) → RPcs (rdW W) g o (zs.map fun z => PD.str ⟨z.toArray⟩)
 | [], _, _ => trivial
 | z :: r, o, h => by
  refine ⟨⟨_, ?_, rfl⟩, strs_known r (o + 1) fun j y hj => by have := h (j + 1) y (by simpa using hj); rwa [show o + (j + 1) = o + 1 + j by omega] at this⟩
  have h0 := h 0 z rfl
  simp only [Nat.add_zero] at h0
  have hlt := World.block_lt_of_cell? W ⟨g, o, none⟩ h0
  simp only [rdW, h0]
  simp [Value.oneCell']
theorem int_known {W : World} {g : Nat} {k : IntKind} {m : Int} (h : W.cell? ⟨g, 0, none⟩ = some (.int k m)) : RPcs (rdW W) g 0 [PD.int k m] := by
 refine ⟨⟨_, ?_, rfl⟩, trivial⟩
 simp only [rdW, h]
 simp [Value.oneCell']
end Dk
