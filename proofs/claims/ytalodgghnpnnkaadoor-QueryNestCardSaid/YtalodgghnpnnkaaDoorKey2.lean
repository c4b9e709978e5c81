/- keyword in a form that the kernel runs whatever MaxLen is: known of names of one letter. -/
import Derived.Test.YtalodgghnpnnkaaDoorKwK
set_option linter.unusedVariables false
set_option linter.unusedSimpArgs false
set_option linter.unusedSectionVars false
namespace Dk.M
open Go Dk
variable [I : Mx]
theorem loc_any {p : Prog} {k np : Nat} {b : DC} {res : List Res} (hd : p k = some ⟨np, b, res, false, true, false⟩) {args : List EV} {os : List Dk.Obj} {v : EV} (e : call p noExt k args ⟨os, os.length⟩ = some (v, ⟨os, os.length⟩)) (lim : Nat) : call p noExt k args ⟨os, lim⟩ = some (v, ⟨os, lim⟩) := by
 obtain ⟨n, e⟩ := (call_iff noExt_mono).1 e
 cases n with
 | zero => cases e
 | succ n =>
  refine (call_iff noExt_mono).2 ⟨n + 1, ?_⟩
  simp only [callN, hd, body, shareArgs, body0, Bool.false_eq_true, if_false, if_true] at e ⊢
  split at e
  · rename_i hl
    rw [if_pos hl]
    split at e
    · cases e
    · rename_i ex fr h1 hne hx
      try rw [hx]
      split at e
      · cases e
      · rename_i vs hvs
        split at e
        · rename_i hu
          cases e
          cases ex with
          | exit i => exact (hne i rfl).elim
          | normal => simp only [hvs, if_pos hu]
          | ret => simp only [hvs, if_pos hu]
        · cases e
    · cases e
  · cases e
theorem key_ok : ∀ c, 97 ≤ c ∧ c ≤ 102 → ∀ h, C0 n_query_keyword [.p (.str (bs [c]))] h = some (eB false, h) := by
 intro c hc ⟨os, lim⟩
 refine loc_any rfl ?_ lim
 have hc' : c = 97 ∨ c = 98 ∨ c = 99 ∨ c = 100 ∨ c = 101 ∨ c = 102 := by omega
 rcases hc' with rfl | rfl | rfl | rfl | rfl | rfl <;> exact keyword_none (l := [_]) (by decide) (by decide) (by decide) _ (Nat.le_refl _)
def chks : List Nat → DC
 | [] => .exit 99
 | c :: r => .seq (.ops [S 3 (.bin .eql .none (.t 0) (.v (.p (.str (bs [c])))))]) (.cond (.t 3) (.ops [S 2 (.mv (xB false))]) (chks r))
def kwD : DFn := ⟨1, .seq (chks [97, 98, 99, 100, 101, 102]) .ret, [.tmp 2], false, false, false⟩
theorem eql_true {x : EV} {t : ByteArray} (h : binOp .eql .none x (.p (.str t)) = some (.p (.bool true))) : x = .p (.str t) := by
 cases x with
 | p y =>
  cases y with
  | str s =>
   have h' : (s.toList == t.toList) = true := by simpa [binOp, strBin] using h
   have : s.toList = t.toList := by simpa using h'
   have e : s = t := by
    have q : s.data.toList = t.data.toList := by simpa [ByteArray.toList_eq] using this
    exact ByteArray.ext (Array.toList_inj.1 q)
   rw [e]
  | _ => simp [binOp, evEq] at h
 | _ => simp [binOp, evEq] at h
theorem chks_exec {C : CallFn} : ∀ (l : List Nat) {fr : Fr} {h : Hp} {e : Ex} {fr1 : Fr} {h1 : Hp}, exec C (chks l) (fr, h) = some (e, fr1, h1) → (∃ i, e = .exit i) ∨ (e = .normal ∧ h1 = h ∧ fr1.get 2 = eB false ∧ ∃ c ∈ l, fr.get 0 = .p (.str (bs [c])))
 | [], fr, h, e, fr1, h1, hx => by
  simp only [chks, exec, Option.some.injEq, Prod.mk.injEq] at hx
  exact .inl ⟨_, hx.1.symm⟩
 | c :: r, fr, h, e, fr1, h1, hx => by
  have k : runStep C ⟨some 3, .bin .eql .none (.t 0) (.v (.p (.str (bs [c])))), none, []⟩ fr h = (binOp .eql .none (fr.get 0) (.p (.str (bs [c])))).map fun v => ((3, v) :: fr, h) := by
   simp only [runStep, runOp, DOp.kind, look, X.ev]
   cases binOp .eql .none (fr.get 0) (.p (.str (bs [c]))) <;> simp [still, Fr.put]
  simp only [chks, exec, runSteps, k] at hx
  cases hb : binOp .eql .none (fr.get 0) (.p (.str (bs [c]))) with
  | none => rw [hb] at hx; simp at hx
  | some v =>
   rw [hb] at hx
   simp only [Option.map_some] at hx
   have k2 : ∀ fr : Fr, runStep C ⟨some 2, .mv (xB false), none, []⟩ fr h = some ((2, eB false) :: fr, h) := fun _ => rfl
   split at hx
   · rename_i t hv
     have hv : v = .p (.bool t) := hv
     subst hv
     split at hx
     · rename_i ht
       subst ht
       simp only [k2, Option.some.injEq, Prod.mk.injEq] at hx
       obtain ⟨rfl, rfl, rfl⟩ := hx
       exact .inr ⟨rfl, rfl, by simp [Fr.get], c, by simp, eql_true hb⟩
     · rcases chks_exec r hx with q | ⟨q1, q2, q3, c', q4, q5⟩
       · exact .inl q
       · exact .inr ⟨q1, q2, q3, c', by simp [q4], by simpa [Fr.get] using q5⟩
   · cases hx
theorem kwD_ok {C : CallFn} {args : List EV} {h : Hp} {r : EV × Hp} (e : body C kwD args h = some r) : C0 n_query_keyword args h = some r := by
 have e : body0 C kwD args h = some r := e
 unfold body0 at e
 split at e
 · rename_i hl
   obtain ⟨x, rfl⟩ : ∃ x, args = [x] := by
    match args, hl with
    | [x], _ => exact ⟨x, rfl⟩
   cases hx : exec C (chks [97, 98, 99, 100, 101, 102]) (args0 0 [x], h) with
   | none =>
    have : exec C kwD.body (args0 0 [x], if kwD.loc then { h with lim := h.objs.length } else h) = none := by
     show (match exec C (chks [97, 98, 99, 100, 101, 102]) (args0 0 [x], h) with | some (.normal, fr, h) => exec C .ret (fr, h) | o => o) = none
     rw [hx]
    rw [this] at e
    cases e
   | some z =>
    obtain ⟨ex, fr1, h1⟩ := z
    rcases chks_exec _ hx with ⟨i, rfl⟩ | ⟨rfl, rfl, q3, c, q4, q5⟩
    · have : exec C kwD.body (args0 0 [x], if kwD.loc then { h with lim := h.objs.length } else h) = some (.exit i, fr1, h1) := by
       show (match exec C (chks [97, 98, 99, 100, 101, 102]) (args0 0 [x], h) with | some (.normal, fr, h) => exec C .ret (fr, h) | o => o) = _
       rw [hx]
      rw [this] at e
      cases e
    · have : exec C kwD.body (args0 0 [x], if kwD.loc then { h1 with lim := h1.objs.length } else h1) = some (.ret, fr1, h1) := by
       show (match exec C (chks [97, 98, 99, 100, 101, 102]) (args0 0 [x], h1) with | some (.normal, fr, h) => exec C .ret (fr, h) | o => o) = _
       rw [hx]
       simp only [exec]
      rw [this] at e
      have hr : resultsOf fr1 h1 kwD.res = some [eB false] := by
       show resultsOf fr1 h1 [.tmp 2] = _
       simp [resultsOf, resultOf, q3]
      simp only [hr] at e
      have e : some (eB false, h1) = some r := e
      cases e
      have q5 : x = .p (.str (bs [c])) := q5
      subst q5
      exact key_ok c (by simp at q4; omega) _
 · cases e
def listK : List (Nat × DFn) := progList.map fun p => if Nat.beq p.1 n_query_keyword = true then (p.1, kwD) else p
theorem progOf_map (k : Nat) (d : DFn) : ∀ (l : List (Nat × DFn)) (f : Nat), progOf (l.map fun p => if Nat.beq p.1 k = true then (p.1, d) else p) f = if f = k then (progOf l f).map fun _ => d else progOf l f
 | [], f => by simp [progOf]
 | (n, e) :: l, f => by
  have ih := progOf_map k d l f
  by_cases hn : n = k
  · subst hn
    by_cases hf : f = n
    · subst hf; simp [progOf]
    · have e1 : progOf (((n, e) :: l).map fun p => if Nat.beq p.1 n = true then (p.1, d) else p) f = progOf (l.map fun p => if Nat.beq p.1 n = true then (p.1, d) else p) f := by simp [progOf, hf]
      rw [e1, ih, if_neg hf, if_neg hf]
      simp [progOf, hf]
  · have hb : Nat.beq n k = false := by
     cases q : Nat.beq n k with
     | false => rfl
     | true => exact absurd (Nat.eq_of_beq_eq_true q) hn
    by_cases hf : f = n
    · subst hf
      rw [if_neg hn]
      simp [progOf, hn]
    · have e1 : progOf (((n, e) :: l).map fun p => if Nat.beq p.1 k = true then (p.1, d) else p) f = progOf (l.map fun p => if Nat.beq p.1 k = true then (p.1, d) else p) f := by simp [progOf, hf, hn]
      rw [e1, ih]
      simp [progOf, hf]
theorem over : Sub (call (progOf listK) noExt) C0 := call_over (k := n_query_keyword) (by decide) (fun f hf => by
 rw [listK, progOf_map, if_neg hf]; rfl) (d := kwD) (by rw [listK, progOf_map, if_pos rfl]; rfl) fun C args h r e => kwD_ok e
end Dk.M
