/- What comes of commands, by plain law: no program in sight. -/
import Derived.Test.YtcbigcpdbidlaaaAsk
set_option linter.unusedVariables false
set_option linter.unusedSimpArgs false
set_option linter.unusedSectionVars false
namespace Dk.Q
open Go Dk

theorem lookL_upd {k k' : Int} {l l' : Line} {b : List (Int × Line)} (h : k' ≠ k) : ∀ {a : List (Int × Line)}, lookL k' (a ++ (k, l) :: b) = lookL k' (a ++ (k, l') :: b)
  | [] => by simp [lookL, Ne.symm h]
  | (k2, l2) :: r => by simp only [List.cons_append, lookL]; rw [lookL_upd (l' := l') h]
theorem lookL_del {k k' : Int} {l : Line} {b : List (Int × Line)} (h : k' ≠ k) : ∀ {a : List (Int × Line)}, lookL k' (a ++ (k, l) :: b) = lookL k' (a ++ b)
  | [] => by simp [lookL, Ne.symm h]
  | (k2, l2) :: r => by simp only [List.cons_append, lookL, lookL_del h]
theorem lookL_add {k s : Int} {l : Line} : ∀ {a : List (Int × Line)}, (∀ y ∈ a, y.1 ≠ s) → lookL k (a ++ [(s, l)]) = if k = s then some l else lookL k a
  | [], _ => by
    by_cases e : s = k
    · simp [lookL, e]
    · simp [lookL, e, Ne.symm e]
  | (k2, l2) :: r, h => by
    have h1 : k2 ≠ s := h (k2, l2) (by simp)
    simp only [List.cons_append, lookL, lookL_add (a := r) fun y hy => h y (by simp [hy])]
    by_cases e : k2 = k
    · subst e; simp [h1]
    · simp [e]

def hitL (o : Int) (f : Fnd) (l : Line) : Line := if l.lost then l else if o ≤ l.row.length then ⟨l.row, true⟩ else ⟨l.row ++ [f], false⟩
theorem hitDoes_look {o : Int} {x : Hit} {ls ls' : List (Int × Line)} {r : List (Int × Int)} (h : HitDoes o x ls ls' r) : ls'.map Prod.fst = ls.map Prod.fst ∧ ∀ k, lookL k ls' = if k = x.id then (lookL k ls).map (hitL o x.f) else lookL k ls := by
  cases h with
  | none h => exact ⟨rfl, fun k => by
      by_cases e : k = x.id
      · subst e; simp [lookL_none h]
      · simp [e]⟩
  | lost h1 h2 => exact ⟨rfl, fun k => by
      by_cases e : k = x.id
      · subst e; simp [lookL_some h1, hitL, h2]
      · simp [e]⟩
  | full h1 h2 h3 => exact ⟨by simp, fun k => by
      by_cases e : k = x.id
      · subst e; simp [lookL_some h1, hitL, h2, h3]
      · simp only [e, if_false]; exact lookL_upd e⟩
  | @kept a b l h1 h2 h3 => exact ⟨by simp, fun k => by
      by_cases e : k = x.id
      · subst e
        have : ¬ o ≤ (l.row.length : Int) := by omega
        simp [lookL_some h1, hitL, h2, this]
      · simp only [e, if_false]; exact lookL_upd e⟩
/-- All hits that are a query's. -/
def hitsL (o : Int) (xs : List Hit) (k : Int) (l : Line) : Line := (xs.filter fun x => decide (x.id = k)).foldl (fun l x => hitL o x.f l) l
theorem hitsL_snoc {o : Int} {xs : List Hit} {x : Hit} {k : Int} {l : Line} : hitsL o (xs ++ [x]) k l = if x.id = k then hitL o x.f (hitsL o xs k l) else hitsL o xs k l := by
  by_cases e : x.id = k
  · simp [hitsL, List.filter_append, e]
  · simp [hitsL, List.filter_append, e]
theorem hitsDo_look {o : Int} {xs : List Hit} {ls ls' : List (Int × Line)} {R : List (Int × Int)} (h : HitsDo o xs ls ls' R) : ls'.map Prod.fst = ls.map Prod.fst ∧ ∀ k, lookL k ls' = (lookL k ls).map (hitsL o xs k) := by
  induction h with
  | @nil ls => exact ⟨rfl, fun k => by cases lookL k ls <;> rfl⟩
  | @snoc xs x ls ls' ls'' R r _ q ih =>
    obtain ⟨e1, e2⟩ := hitDoes_look q
    refine ⟨e1.trans ih.1, fun k => ?_⟩
    rw [e2 k, ih.2 k]
    by_cases e : k = x.id
    · subst e
      cases lookL x.id ls <;> simp [hitsL_snoc]
    · cases lookL k ls <;> simp [hitsL_snoc, e, Ne.symm e]
theorem markDoes_look {x : Int} {ls ls' : List (Int × Line)} (h : MarkDoes x ls ls') : ls'.map Prod.fst = ls.map Prod.fst ∧ ∀ k, lookL k ls' = if k = x then (lookL k ls).map (fun l => ⟨l.row, true⟩) else lookL k ls := by
  cases h with
  | none h => exact ⟨rfl, fun k => by
      by_cases e : k = x
      · subst e; simp [lookL_none h]
      · simp [e]⟩
  | mark h1 => exact ⟨by simp, fun k => by
      by_cases e : k = x
      · subst e; simp [lookL_some h1]
      · simp only [e, if_false]; exact lookL_upd e⟩
def marksL (xs : List Int) (k : Int) (l : Line) : Line := if k ∈ xs then ⟨l.row, true⟩ else l
theorem marksDo_look {xs : List Int} {ls ls' : List (Int × Line)} (h : MarksDo xs ls ls') : ls'.map Prod.fst = ls.map Prod.fst ∧ ∀ k, lookL k ls' = (lookL k ls).map (marksL xs k) := by
  induction h with
  | @nil ls => exact ⟨rfl, fun k => by cases lookL k ls <;> simp [marksL]⟩
  | @snoc xs x ls ls' ls'' _ q ih =>
    obtain ⟨e1, e2⟩ := markDoes_look q
    refine ⟨e1.trans ih.1, fun k => ?_⟩
    rw [e2 k, ih.2 k]
    by_cases e : k = x
    · subst e
      by_cases m : k ∈ xs <;> cases lookL k ls <;> simp [marksL, m]
    · cases lookL k ls <;> simp [e, marksL]

theorem hitL_lost {o : Int} {f : Fnd} {l : Line} (h : l.lost = true) : (hitL o f l).lost = true := by simp [hitL, h]
theorem hitsL_lost {o : Int} {xs : List Hit} {k : Int} {l : Line} (h : l.lost = true) : (hitsL o xs k l).lost = true := by
  unfold hitsL
  generalize xs.filter _ = ys
  induction ys generalizing l with
  | nil => simpa using h
  | cons y ys ih => exact ih (hitL_lost h)

/-- Keys: each once, and below a number. -/
structure KeysOK (s : Int) (ls : List (Int × Line)) : Prop where
  once : (ls.map Prod.fst).Nodup
  lt : ∀ y ∈ ls, y.1 < s
theorem keys_of {s : Int} {ls ls' : List (Int × Line)} (h : KeysOK s ls) (e : ls'.map Prod.fst = ls.map Prod.fst) : KeysOK s ls' := by
  refine ⟨by rw [e]; exact h.once, fun y hy => ?_⟩
  have : y.1 ∈ ls.map Prod.fst := by rw [← e]; exact List.mem_map_of_mem hy
  obtain ⟨z, hz, q⟩ := List.mem_map.1 this
  rw [← q]
  exact h.lt z hz
theorem once_mid {a b : List (Int × Line)} {k : Int} {l : Line} (h : ((a ++ (k, l) :: b).map Prod.fst).Nodup) : ∀ y ∈ a ++ b, y.1 ≠ k := by
  simp only [List.map_append, List.map_cons] at h
  rw [List.nodup_append] at h
  obtain ⟨h1, h2, h3⟩ := h
  obtain ⟨h4, h5⟩ := List.nodup_cons.1 h2
  intro y hy e
  rcases List.mem_append.1 hy with q | q
  · exact h3 y.1 (List.mem_map_of_mem q) k (by simp) e
  · exact h4 (e ▸ List.mem_map_of_mem q)
theorem fit_hit {cf : Conf} {x : Hit} {ls ls' : List (Int × Line)} {r : List (Int × Int)} (h : HitDoes cf.o x ls ls' r) (F : Fit cf ls) (hx : FndOK x.f) : Fit cf ls' := by
  cases h with
  | none h => exact F
  | lost h1 h2 => exact F
  | @full a b l h1 h2 h3 =>
    intro y hy
    rcases List.mem_append.1 hy with q | q
    · exact F y (by simp [q])
    · rcases List.mem_cons.1 q with rfl | q
      · exact F (x.id, l) (by simp)
      · exact F y (by simp [q])
  | @kept a b l h1 h2 h3 =>
    intro y hy
    rcases List.mem_append.1 hy with q | q
    · exact F y (by simp [q])
    · rcases List.mem_cons.1 q with rfl | q
      · have := F (x.id, l) (by simp)
        refine ⟨by simp; omega, fun f hf => ?_⟩
        rcases List.mem_append.1 hf with z | z
        · exact this.2 f z
        · simp at z; subst z; exact hx
      · exact F y (by simp [q])
theorem fit_hits {cf : Conf} {xs : List Hit} {ls ls' : List (Int × Line)} {R : List (Int × Int)} (h : HitsDo cf.o xs ls ls' R) (F : Fit cf ls) (hx : ∀ x ∈ xs, FndOK x.f) : Fit cf ls' := by
  induction h with
  | nil => exact F
  | snoc _ q ih => exact fit_hit q (ih F fun x hx' => hx x (by simp [hx'])) (hx _ (by simp))
theorem fit_mark {cf : Conf} {x : Int} {ls ls' : List (Int × Line)} (h : MarkDoes x ls ls') (F : Fit cf ls) : Fit cf ls' := by
  cases h with
  | none h => exact F
  | @mark a b l h1 =>
    intro y hy
    rcases List.mem_append.1 hy with q | q
    · exact F y (by simp [q])
    · rcases List.mem_cons.1 q with rfl | q
      · exact F (x, l) (by simp)
      · exact F y (by simp [q])
theorem fit_marks {cf : Conf} {xs : List Int} {ls ls' : List (Int × Line)} (h : MarksDo xs ls ls') (F : Fit cf ls) : Fit cf ls' := by
  induction h with
  | nil => exact F
  | snoc _ q ih => exact fit_mark q (ih F)

/-- What goes on for ever. -/
structure Lives (cf : Conf) (s : Int) (ls : List (Int × Line)) : Prop where
  keys : KeysOK s ls
  few : (ls.length : Int) ≤ cf.q
  fit : Fit cf ls
theorem does_lives {cf : Conf} {s : Int} {c : Cmd} {outs : List OutV} {ls ls' : List (Int × Line)} {err n : Int} {ms : List Fnd} {R : List (Int × Int)} (h : Does cf s c outs ls ls' err n ms R) (ho : c.kind = 1 → OutsOK outs) (L : Lives cf s ls) (hpos : 0 ≤ cf.o) : Lives cf (s + 1) ls' := by
  obtain ⟨⟨K1, K2⟩, few, F⟩ := L
  have up : ∀ {ls' : List (Int × Line)}, ls'.map Prod.fst = ls.map Prod.fst → Fit cf ls' → Lives cf (s + 1) ls' := fun {ls'} e f => by
    have k := keys_of (s := s) ⟨K1, K2⟩ e
    have e2 : ls'.length = ls.length := by simpa using congrArg List.length e
    exact ⟨⟨k.once, fun y hy => by have := k.lt y hy; omega⟩, by rw [e2]; exact few, f⟩
  cases h with
  | full _ _ => exact up rfl F
  | new h1 h2 =>
    refine ⟨⟨?_, fun y hy => ?_⟩, by simp; omega, fun y hy => ?_⟩
    · simp only [List.map_append, List.map_cons, List.map_nil]
      refine List.nodup_append.2 ⟨K1, by simp, fun x hx y hy => ?_⟩
      obtain ⟨z, hz, rfl⟩ := List.mem_map.1 hx
      simp at hy
      have := K2 z hz
      omega
    · rcases List.mem_append.1 hy with q | q
      · have := K2 y q; omega
      · simp at q; subst q; simp only; omega
    · rcases List.mem_append.1 hy with q | q
      · exact F y q
      · simp at q; subst q; exact ⟨by simpa using hpos, by simp⟩
  | endNone _ _ => exact up rfl F
  | @ends a b l h1 h2 =>
    have hsub : List.Sublist (a ++ b) (a ++ (c.id, l) :: b) := (List.Sublist.refl _).append (List.sublist_cons_self _ _)
    refine ⟨⟨(hsub.map _).nodup K1, fun y hy => by have := K2 y (hsub.subset hy); omega⟩, ?_, fun y hy => F y (hsub.subset hy)⟩
    have := hsub.length_le
    omega
  | few _ _ => exact up rfl F
  | askNone _ _ _ => exact up rfl F
  | askLost _ _ _ _ _ => exact up rfl F
  | @ask a b l h1 h2 h3 h4 =>
    refine up (by simp) fun y hy => ?_
    rcases List.mem_append.1 hy with q | q
    · exact F y (by simp [q])
    · rcases List.mem_cons.1 q with rfl | q
      · have := F (c.id, l) (by simp)
        refine ⟨by simp only [List.length_drop] at this ⊢; omega, fun f hf => this.2 f (List.mem_of_mem_drop hf)⟩
      · exact F y (by simp [q])
  | publish h1 h2 h3 =>
    have hall : ∀ l ∈ outs.map OutV.hits, ∀ x ∈ l, FndOK x.f := fun l hl x hx => by
      obtain ⟨o, ho', rfl⟩ := List.mem_map.1 hl
      exact (((ho h1).all o ho').hits x hx).1
    exact up ((marksDo_look h3).1.trans (hitsDo_look h2).1) (fit_marks h3 (fit_hits h2 F (mergeF_all _ _ hall)))
  | close _ => exact up rfl F
  | bad _ => exact up rfl F

theorem does_lost {cf : Conf} {s : Int} {c : Cmd} {outs : List OutV} {ls ls' : List (Int × Line)} {err n : Int} {ms : List Fnd} {R : List (Int × Int)} (h : Does cf s c outs ls ls' err n ms R) (K : KeysOK s ls) {k : Int} (hk : isLost k ls = true) (he : ¬ (c.kind = 3 ∧ c.id = k)) : isLost k ls' = true := by
  cases h with
  | full _ _ => exact hk
  | new h1 h2 =>
    unfold isLost at hk ⊢
    rw [lookL_add fun y hy e => by have := K.lt y hy; omega]
    by_cases e : k = s
    · subst e
      rw [lookL_none fun y hy e => by have := K.lt y hy; omega] at hk
      cases hk
    · rw [if_neg e]; exact hk
  | endNone _ _ => exact hk
  | ends h1 h2 =>
    unfold isLost at hk ⊢
    rw [← lookL_del (k := c.id) (fun e => he ⟨h1, e.symm⟩)]
    exact hk
  | few _ _ => exact hk
  | askNone _ _ _ => exact hk
  | askLost _ _ _ _ _ => exact hk
  | @ask a b l h1 h2 h3 h4 =>
    unfold isLost at hk ⊢
    by_cases e : k = c.id
    · subst e
      rw [lookL_some h3] at hk ⊢
      exact hk
    · rw [lookL_upd (l' := l) e]
      exact hk
  | publish h1 h2 h3 =>
    unfold isLost at hk ⊢
    rw [(marksDo_look h3).2, (hitsDo_look h2).2]
    cases q : lookL k ls with
    | none => rw [q] at hk; cases hk
    | some l =>
      rw [q] at hk
      simp only [Option.map_some, marksL]
      split
      · rfl
      · exact hitsL_lost hk
  | close _ => exact hk
  | bad _ => exact hk
theorem waits_fit {cf : Conf} {ls : List (Int × Line)} (F : Fit cf ls) (hpos : 0 ≤ cf.o) (k : Int) : (waits k ls : Int) ≤ cf.o := by
  unfold waits
  rcases split_line k ls with hno | ⟨a, l, b, rfl, hfr⟩
  · rw [lookL_none hno]; simpa using hpos
  · rw [lookL_some hfr]; exact (F (k, l) (by simp)).1
end Dk.Q
