/- Refs that come, and go: none is forgotten, none is let go twice. -/
import Derived.Test.YtcbigcpdbidlaaaLaw3
set_option linter.unusedVariables false
set_option linter.unusedSimpArgs false
set_option linter.unusedSectionVars false
namespace Dk.Q
open Go Dk

def wt (w : Int × Int → Nat) (l : List (Int × Int)) : Nat := (l.map w).sum
theorem wt_append (w : Int × Int → Nat) (a b : List (Int × Int)) : wt w (a ++ b) = wt w a + wt w b := by simp [wt]
def heldRefs (ls : List (Int × Line)) : List (Int × Int) := ls.flatMap fun y => allRefs y.2.row
theorem held_append (a b : List (Int × Line)) : heldRefs (a ++ b) = heldRefs a ++ heldRefs b := by simp [heldRefs]
theorem held_cons (k : Int) (l : Line) (b : List (Int × Line)) : heldRefs ((k, l) :: b) = allRefs l.row ++ heldRefs b := by simp [heldRefs]
def hitRefs (l : List Hit) : List (Int × Int) := l.flatMap fun x => x.f.refs
def outRefs (outs : List OutV) : List (Int × Int) := outs.flatMap fun o => hitRefs o.hits
def newRefs (c : Cmd) (outs : List OutV) : List (Int × Int) := if c.kind = 1 then outRefs outs ++ [(c.slot, c.gen)] else []

theorem hit_wt {o : Int} {x : Hit} {ls ls' : List (Int × Line)} {r : List (Int × Int)} (h : HitDoes o x ls ls' r) (w : Int × Int → Nat) : wt w (heldRefs ls) + wt w x.f.refs = wt w r + wt w (heldRefs ls') := by
  cases h with
  | none h => omega
  | lost h1 h2 => omega
  | full h1 h2 h3 => simp only [held_append, held_cons, wt_append]; omega
  | @kept a b l h1 h2 h3 =>
    have e : allRefs (l.row ++ [x.f]) = allRefs l.row ++ x.f.refs := by simp [allRefs]
    have z : wt w [] = 0 := rfl
    simp only [held_append, held_cons, wt_append, e, z]
    omega
theorem hits_wt {o : Int} {xs : List Hit} {ls ls' : List (Int × Line)} {R : List (Int × Int)} (h : HitsDo o xs ls ls' R) (w : Int × Int → Nat) : wt w (heldRefs ls) + wt w (hitRefs xs) = wt w R + wt w (heldRefs ls') := by
  induction h with
  | nil => simp [hitRefs, wt]
  | @snoc xs x ls ls' ls'' R r _ q ih =>
    have q' := hit_wt q w
    have e : hitRefs (xs ++ [x]) = hitRefs xs ++ x.f.refs := by simp [hitRefs]
    rw [e, wt_append, wt_append]
    omega
theorem mark_wt {x : Int} {ls ls' : List (Int × Line)} (h : MarkDoes x ls ls') : heldRefs ls' = heldRefs ls := by
  cases h with
  | none h => rfl
  | mark h1 => simp only [held_append, held_cons]
theorem marks_wt {xs : List Int} {ls ls' : List (Int × Line)} (h : MarksDo xs ls ls') : heldRefs ls' = heldRefs ls := by
  induction h with
  | nil => rfl
  | snoc _ q ih => exact (mark_wt q).trans ih

theorem rows_empty {w : Int × Int → Nat} : ∀ {rows : List (List Hit)}, (∀ (j : Nat) z r, rows[j]? = some (z :: r) → False) → (rows.map fun l => wt w (hitRefs l)).sum = 0
  | [], _ => rfl
  | l :: rows, h => by
    have h1 : l = [] := by
      cases l with
      | nil => rfl
      | cons z r => exact (h 0 z r (by simp)).elim
    subst h1
    have := rows_empty (w := w) (rows := rows) fun j z r q => h (j + 1) z r (by simpa using q)
    simpa [hitRefs, wt] using this
theorem mergeF_wt (w : Int × Int → Nat) : ∀ (n : Nat) (rows : List (List Hit)), total rows ≤ n → wt w (hitRefs (mergeF n rows)) = (rows.map fun l => wt w (hitRefs l)).sum
  | 0, rows, hn => by
    refine (rows_empty fun j z r q => ?_).symm
    have := total_step q
    omega
  | n + 1, rows, hn => by
    obtain ⟨m1, m2⟩ := bestN_min rows rows.length
    simp only [mergeF]
    by_cases hb : bestN rows rows.length < 0
    · have e : stepM rows = none := by simp [stepM, hb]
      rw [e]
      exact (rows_empty fun j z r q => m1 hb j z r (List.getElem?_eq_some_iff.1 q).1 q).symm
    · obtain ⟨x, r, hx, -⟩ := m2 (by omega)
      have e : stepM rows = some (x, rows.set (bestN rows rows.length).toNat r) := by simp [stepM, hb, hx]
      rw [e]
      simp only
      have hlen := (List.getElem?_eq_some_iff.1 hx).1
      generalize (bestN rows rows.length).toNat = b at *
      have st := total_step hx
      have es : rows = rows.take b ++ (x :: r) :: rows.drop (b + 1) := by
        have := (List.getElem?_eq_some_iff.1 hx).2
        rw [← this, List.getElem_cons_drop, List.take_append_drop]
      have es2 : rows.set b r = rows.take b ++ r :: rows.drop (b + 1) := by rw [List.set_eq_take_append_cons_drop, if_pos hlen]
      have ih := mergeF_wt w n (rows.set b r) (by omega)
      have hc : ∀ l : List Hit, wt w (hitRefs (x :: l)) = wt w x.f.refs + wt w (hitRefs l) := fun l => by simp [hitRefs, wt]
      rw [hc, ih, es2]
      conv => rhs; rw [es]
      simp only [List.map_append, List.map_cons, List.sum_append, List.sum_cons, hc]
      omega
theorem out_wt (w : Int × Int → Nat) : ∀ outs : List OutV, wt w (outRefs outs) = ((outs.map OutV.hits).map fun l => wt w (hitRefs l)).sum
  | [] => rfl
  | o :: outs => by
    have := out_wt w outs
    simp only [outRefs, List.flatMap_cons, wt_append, List.map_cons, List.sum_cons] at this ⊢
    rw [this]

/-- All that comes, goes, or is held. -/
theorem does_wt {cf : Conf} {s : Int} {c : Cmd} {outs : List OutV} {ls ls' : List (Int × Line)} {err n : Int} {ms : List Fnd} {R : List (Int × Int)} (h : Does cf s c outs ls ls' err n ms R) (w : Int × Int → Nat) : wt w (heldRefs ls) + wt w (newRefs c outs) = wt w R + wt w (heldRefs ls') := by
  have z : wt w [] = 0 := rfl
  cases h with
  | full h1 _ => simp only [newRefs, h1]; simp [z]
  | new h1 _ => simp only [newRefs, h1, held_append]; simp [z, wt_append, heldRefs, allRefs]
  | endNone h1 _ => simp only [newRefs, h1]; simp [z]
  | ends h1 _ => simp only [newRefs, h1, held_append, held_cons, wt_append]; simp [z]; omega
  | few h1 _ => simp only [newRefs, h1]; simp [z]
  | askNone h1 _ _ => simp only [newRefs, h1]; simp [z]
  | askLost h1 _ _ _ _ => simp only [newRefs, h1]; simp [z]
  | @ask a b l h1 h2 h3 h4 =>
    have e : allRefs l.row = allRefs (l.row.take c.n.toNat) ++ allRefs (l.row.drop c.n.toNat) := by
      conv => lhs; rw [← List.take_append_drop c.n.toNat l.row]
      simp only [allRefs, List.flatMap_append]
    simp only [newRefs, h1, held_append, held_cons, wt_append, e]
    simp [z]
    omega
  | publish h1 h2 h3 =>
    have q1 := hits_wt h2 w
    rw [mergeF_wt w _ _ (Nat.le_refl _), ← out_wt] at q1
    simp only [newRefs, h1, if_true, wt_append, marks_wt h3]
    omega
  | close h1 => simp only [newRefs, h1]; simp [z]
  | bad h1 => simp only [newRefs, h1.1]; simp [z]
end Dk.Q
