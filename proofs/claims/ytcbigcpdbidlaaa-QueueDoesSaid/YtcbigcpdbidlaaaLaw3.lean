/- What a command does, as a function of what is there. -/
import Derived.Test.YtcbigcpdbidlaaaLaw2
set_option linter.unusedVariables false
set_option linter.unusedSimpArgs false
set_option linter.unusedSectionVars false
namespace Dk.Q
open Go Dk

def merged (outs : List OutV) : List Hit := mergeF (total (outs.map OutV.hits)) (outs.map OutV.hits)
def lookAfter (cf : Conf) (s : Int) (c : Cmd) (outs : List OutV) (full : Bool) (k : Int) (o : Option Line) : Option Line :=
  if c.kind = 2 then (if full then o else if k = s then some ⟨[], false⟩ else o)
  else if c.kind = 3 then (if k = c.id then none else o)
  else if c.kind = 4 then (if k = c.id ∧ 1 ≤ c.n then o.map (fun l => ⟨l.row.drop c.n.toNat, l.lost⟩) else o)
  else if c.kind = 1 then o.map (fun l => marksL (outs.flatMap OutV.lost) k (hitsL cf.o (merged outs) k l))
  else o
def ansAfter (s : Int) (c : Cmd) (full : Bool) (o : Option Line) : Int × Int × List Fnd :=
  if c.kind = 2 then (if full then (16, 0, []) else (0, s, []))
  else if c.kind = 3 then (match o with | none => (15, 0, []) | some _ => (0, 0, []))
  else if c.kind = 4 then (if c.n < 1 then (1, 0, []) else match o with | none => (15, 0, []) | some l => if l.row = [] ∧ l.lost = true then (20, 0, []) else (0, 0, l.row.take c.n.toNat))
  else if c.kind = 1 then (0, s, [])
  else if c.kind = 5 then (0, s, [])
  else (1, 0, [])
def keysAfter (s : Int) (c : Cmd) (full : Bool) (ks : List Int) : List Int :=
  if c.kind = 2 then (if full then ks else ks ++ [s]) else if c.kind = 3 then ks.erase c.id else ks

theorem lookL_gone {k : Int} {a b : List (Int × Line)} {l : Line} (h : ((a ++ (k, l) :: b).map Prod.fst).Nodup) : lookL k (a ++ b) = none := lookL_none (once_mid h)
theorem keys_erase {k : Int} {a b : List (Int × Line)} {l : Line} (h : ∀ y ∈ a, y.1 ≠ k) : ((a ++ (k, l) :: b).map Prod.fst).erase k = (a ++ b).map Prod.fst := by
  simp only [List.map_append, List.map_cons]
  rw [List.erase_append_right]
  · simp
  · intro q
    obtain ⟨y, hy, e⟩ := List.mem_map.1 q
    exact h y hy e
theorem keys_none {k : Int} {ls : List (Int × Line)} (h : ∀ y ∈ ls, y.1 ≠ k) : (ls.map Prod.fst).erase k = ls.map Prod.fst :=
  List.erase_of_not_mem fun q => by
    obtain ⟨y, hy, e⟩ := List.mem_map.1 q
    exact h y hy e

theorem does_fun {cf : Conf} {s : Int} {c : Cmd} {outs : List OutV} {ls ls' : List (Int × Line)} {err n : Int} {ms : List Fnd} {R : List (Int × Int)} (h : Does cf s c outs ls ls' err n ms R) (K : KeysOK s ls) :
    (∀ k, lookL k ls' = lookAfter cf s c outs (decide (cf.q ≤ (ls.length : Int))) k (lookL k ls)) ∧ (err, n, ms) = ansAfter s c (decide (cf.q ≤ (ls.length : Int))) (lookL c.id ls) ∧ ls'.map Prod.fst = keysAfter s c (decide (cf.q ≤ (ls.length : Int))) (ls.map Prod.fst) := by
  cases h with
  | full h1 h2 => simp [lookAfter, ansAfter, keysAfter, h1, h2]
  | new h1 h2 =>
    have h2' : ¬ cf.q ≤ (ls.length : Int) := by omega
    refine ⟨fun k => ?_, by simp [ansAfter, h1, h2'], by simp [keysAfter, h1, h2']⟩
    rw [lookL_add fun y hy e => by have := K.lt y hy; omega]
    simp [lookAfter, h1, h2']
  | endNone h1 h2 =>
    refine ⟨fun k => ?_, by simp [ansAfter, h1, lookL_none h2], by simp only [keysAfter, h1]; rw [if_neg (by decide), if_pos trivial, keys_none h2]⟩
    by_cases e : k = c.id
    · subst e; simp [lookAfter, h1, lookL_none h2]
    · simp [lookAfter, h1, e]
  | ends h1 h2 =>
    refine ⟨fun k => ?_, by simp [ansAfter, h1, lookL_some h2], by simp only [keysAfter, h1]; rw [if_neg (by decide), if_pos trivial, keys_erase h2]⟩
    by_cases e : k = c.id
    · subst e; simp [lookAfter, h1, lookL_gone K.once]
    · simp [lookAfter, h1, e, lookL_del e]
  | few h1 h2 =>
    have h2' : ¬ 1 ≤ c.n := by omega
    simp [lookAfter, ansAfter, keysAfter, h1, h2, h2']
  | askNone h1 h2 h3 =>
    have h2' : ¬ c.n < 1 := by omega
    refine ⟨fun k => ?_, by simp [ansAfter, h1, h2', lookL_none h3], by simp [keysAfter, h1]⟩
    by_cases e : k = c.id
    · subst e; simp [lookAfter, h1, lookL_none h3]
    · simp [lookAfter, h1, e]
  | @askLost a b l h1 h2 h3 h4 h5 =>
    have h2' : ¬ c.n < 1 := by omega
    obtain ⟨row, lost⟩ := l
    simp only at h4 h5
    subst h4 h5
    refine ⟨fun k => ?_, by simp [ansAfter, h1, h2', lookL_some h3], by simp [keysAfter, h1]⟩
    by_cases e : k = c.id
    · subst e; simp [lookAfter, h1, lookL_some h3]
    · simp [lookAfter, h1, e]
  | @ask a b l h1 h2 h3 h4 =>
    have h2' : ¬ c.n < 1 := by omega
    have h4' : ¬ (l.row = [] ∧ l.lost = true) := fun q => by
      have := h4 q.1
      rw [this] at q
      exact Bool.noConfusion q.2
    refine ⟨fun k => ?_, by simp only [ansAfter, h1, lookL_some h3]; rw [if_neg (by decide), if_neg (by decide), if_pos trivial, if_neg h2', if_neg h4'], by simp [keysAfter, h1]⟩
    by_cases e : k = c.id
    · subst e; simp [lookAfter, h1, h2, lookL_some h3]
    · simp only [lookAfter, h1, e, false_and, if_false, if_true]
      exact lookL_upd e
  | publish h1 h2 h3 =>
    refine ⟨fun k => ?_, by simp [ansAfter, h1], by simp only [keysAfter, h1]; exact (marksDo_look h3).1.trans (hitsDo_look h2).1⟩
    rw [(marksDo_look h3).2, (hitsDo_look h2).2]
    simp [lookAfter, h1, merged, Function.comp_def]
  | close h1 => simp [lookAfter, ansAfter, keysAfter, h1]
  | bad h1 => simp [lookAfter, ansAfter, keysAfter, h1]

/-- Of the hits those of even ids. -/
def evenI (k : Int) : Bool := decide (k.tmod 2 = 0)
def evenO (o : OutV) : OutV := ⟨o.hits.filter fun x => evenI x.id, o.lost.filter evenI, [], []⟩
theorem OutOK.even {o : OutV} (h : OutOK o) : OutOK (evenO o) :=
  ⟨h.sorted.filter _, Nat.le_trans (List.length_filter_le _ _) h.few, fun x hx => h.hits x (List.mem_filter.1 hx).1, Nat.le_trans (List.length_filter_le _ _) h.lost⟩
theorem OutsOK.even {outs : List OutV} (h : OutsOK outs) : OutsOK (outs.map evenO) :=
  ⟨by simp [h.len], fun o ho => by
    obtain ⟨x, hx, rfl⟩ := List.mem_map.1 ho
    exact (h.all x hx).even⟩
theorem atK_even {k : Int} (hk : evenI k = true) (l : List Hit) : atK k (l.filter fun x => evenI x.id) = atK k l := by
  simp only [atK, List.filter_filter]
  congr 1
  funext x
  by_cases e : x.id = k
  · simp [e, hk]
  · simp [e]
theorem hitsL_even {o : Int} {outs : List OutV} (h : OutsOK outs) {k : Int} (hk : evenI k = true) (l : Line) : hitsL o (merged (outs.map evenO)) k l = hitsL o (merged outs) k l := by
  have key : ∀ {os : List OutV}, OutsOK os → atK k (merged os) = os.flatMap fun o => atK k o.hits := fun {os} h => by
    unfold merged
    rw [mergeF_at k _ _ (fun l hl => by
      obtain ⟨o, ho, rfl⟩ := List.mem_map.1 hl
      exact (h.all o ho).sorted) (Nat.le_refl _)]
    rw [List.flatMap_map]
  have e : atK k (merged (outs.map evenO)) = atK k (merged outs) := by
    rw [key h.even, key h, List.flatMap_map]
    congr 1
    funext o
    exact atK_even hk _
  simp only [hitsL]
  simp only [atK] at e
  rw [e]
theorem marksL_even {outs : List OutV} {k : Int} (hk : evenI k = true) (l : Line) : marksL ((outs.map evenO).flatMap OutV.lost) k l = marksL (outs.flatMap OutV.lost) k l := by
  have : (k ∈ (outs.map evenO).flatMap OutV.lost) ↔ k ∈ outs.flatMap OutV.lost := by
    simp only [List.mem_flatMap, List.mem_map]
    constructor
    · rintro ⟨_, ⟨o, ho, rfl⟩, q⟩
      exact ⟨o, ho, (List.mem_filter.1 q).1⟩
    · rintro ⟨o, ho, q⟩
      exact ⟨_, ⟨o, ho, rfl⟩, List.mem_filter.2 ⟨q, hk⟩⟩
  simp only [marksL, this]

/-- Two desks, of which the even lines are the same. -/
structure Twin (ls es : List (Int × Line)) : Prop where
  keys : ls.map Prod.fst = es.map Prod.fst
  look : ∀ k, evenI k = true → lookL k ls = lookL k es
theorem lookL_iff {k : Int} : ∀ {ls : List (Int × Line)}, lookL k ls = none ↔ k ∉ ls.map Prod.fst
  | [] => by simp [lookL]
  | (k', l) :: r => by
    simp only [lookL]
    by_cases e : k' = k
    · simp [e]
    · simp [e, Ne.symm e, lookL_iff (ls := r)]
theorem twin_does {cf : Conf} {s : Int} {c : Cmd} {outs : List OutV} {ls ls' es es' : List (Int × Line)} {err n err' n' : Int} {ms ms' : List Fnd} {R R' : List (Int × Int)} (h : Does cf s c outs ls ls' err n ms R) (h' : Does cf s c (outs.map evenO) es es' err' n' ms' R') (K : KeysOK s ls) (K' : KeysOK s es) (T : Twin ls es) (ho : c.kind = 1 → OutsOK outs) :
    Twin ls' es' ∧ (¬ (c.kind = 4) ∨ evenI c.id = true → err = err' ∧ n = n' ∧ ms = ms') := by
  obtain ⟨a1, a2, a3⟩ := does_fun h K
  obtain ⟨b1, b2, b3⟩ := does_fun h' K'
  have hl : ls.length = es.length := by simpa using congrArg List.length T.keys
  rw [← hl] at b1 b2 b3
  refine ⟨⟨by rw [a3, b3, T.keys], fun k hk => ?_⟩, fun hc => ?_⟩
  · rw [a1, b1, T.look k hk]
    simp only [lookAfter]
    by_cases c1 : c.kind = 1
    · simp only [c1]
      have O := ho c1
      cases lookL k es with
      | none => rfl
      | some l => simp [hitsL_even O hk, marksL_even hk]
    · simp [c1]
  · have e : ansAfter s c (decide (cf.q ≤ (ls.length : Int))) (lookL c.id ls) = ansAfter s c (decide (cf.q ≤ (ls.length : Int))) (lookL c.id es) := by
      by_cases hk : evenI c.id = true
      · rw [T.look _ hk]
      · have h4 : ¬ c.kind = 4 := hc.resolve_right hk
        simp only [ansAfter]
        by_cases h3 : c.kind = 3
        · have i1 := lookL_iff (k := c.id) (ls := ls)
          have i2 := lookL_iff (k := c.id) (ls := es)
          rw [T.keys] at i1
          have i3 := i1.trans i2.symm
          simp only [h3]
          cases q1 : lookL c.id ls with
          | none => rw [i3.1 q1]
          | some x => cases q2 : lookL c.id es with
            | none => rw [i3.2 q2] at q1; cases q1
            | some y => rfl
        · simp [h3, h4]
    rw [e, ← b2] at a2
    cases a2
    exact ⟨rfl, rfl, rfl⟩
end Dk.Q
