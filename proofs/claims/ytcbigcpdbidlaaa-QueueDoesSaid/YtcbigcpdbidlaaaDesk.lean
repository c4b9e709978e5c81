/- The queue's desk: what it is, in D's memory; how it is made. -/
import Derived.Test.YtcbigcpdbidlaaaP
set_option linter.unusedVariables false
set_option linter.unusedSimpArgs false
set_option linter.unusedSectionVars false
namespace Dk.Q
open Go Dk

/-- A match: plain data. -/
structure Fnd where
  sets : List PD
  refs : List (Int × Int)
def rPD (r : Int × Int) : PD := .agg [iN r.1, iN r.2]
def Fnd.cells (f : Fnd) : List EV := [.p (.list f.sets), .p (.list (f.refs.map rPD))]
structure Line where
  row : List Fnd
  lost : Bool
structure Conf where
  (a b c q e o g : Int)
def Conf.cells (c : Conf) : List EV := [eI c.a, eI c.b, eI c.c, eI c.q, eI c.e, eI c.o, eI c.g]
structure Desk where
  conf : Conf
  lines : List (Int × Line)

/-- A line in memory; the row is its own. -/
structure LineAt (h : Hp) (p : Nat) (l : Line) (fp : List Nat) : Prop where
  row : ∃ v, h.arr p 0 = some ⟨0, 2, true, 0, [[v, eB l.lost]]⟩ ∧ Own h 2 true v (l.row.map Fnd.cells) fp
  lim : h.lim ≤ p

theorem LineAt.fwd {h h' : Hp} {p : Nat} {l : Line} {fp ids : List Nat} (H : LineAt h p l fp) (f : Fwd ids h h') (h1 : p ∉ ids) (h2 : ∀ x ∈ fp, x ∉ ids) : LineAt h' p l fp := by
  obtain ⟨⟨v, a, b⟩, c⟩ := H
  exact ⟨⟨v, f.arr a h1, b.fwd f h2⟩, by rw [f.lim]; exact c⟩

def ents (ls : List (Int × Line)) (ps : List (Nat × List Nat)) : List (PD × EV) := List.zipWith (fun l p => (iN l.1, EV.ptr p.1 0 0 0)) ls ps
def own (id idm : Nat) (ps : List (Nat × List Nat)) : List Nat := id :: idm :: ps.flatMap fun p => p.1 :: p.2

structure DeskAt (h : Hp) (id idm : Nat) (ps : List (Nat × List Nat)) (d : Desk) : Prop where
  top : h.arr id 0 = some ⟨0, 8, true, 0, [d.conf.cells ++ [.map idm]]⟩
  map : h.mapOf idm = some (ents d.lines ps)
  len : ps.length = d.lines.length
  lines : ∀ (i : Nat) (k : Int) (l : Line) (p : Nat) (fp : List Nat), d.lines[i]? = some (k, l) → ps[i]? = some (p, fp) → LineAt h p l fp
  dis : (own id idm ps).Nodup
  lim : h.lim ≤ id ∧ h.lim ≤ idm

theorem own_mem {id idm : Nat} {ps : List (Nat × List Nat)} {x : Nat} : x ∈ own id idm ps ↔ x = id ∨ x = idm ∨ ∃ p ∈ ps, x = p.1 ∨ x ∈ p.2 := by
  simp [own]
theorem DeskAt.line {h : Hp} {id idm : Nat} {ps : List (Nat × List Nat)} {d : Desk} (H : DeskAt h id idm ps d) {p : Nat × List Nat} (hp : p ∈ ps) : ∃ k l, (k, l) ∈ d.lines ∧ LineAt h p.1 l p.2 := by
  obtain ⟨i, hi, e⟩ := List.mem_iff_getElem.1 hp
  have hi' : i < d.lines.length := by rw [← H.len]; exact hi
  refine ⟨d.lines[i].1, d.lines[i].2, List.getElem_mem hi', H.lines i _ _ p.1 p.2 (by rw [List.getElem?_eq_getElem hi']) (by rw [List.getElem?_eq_getElem hi, e])⟩
theorem DeskAt.lt {h : Hp} {id idm : Nat} {ps : List (Nat × List Nat)} {d : Desk} (H : DeskAt h id idm ps d) : ∀ x ∈ own id idm ps, x < h.objs.length := by
  intro x hx
  rcases own_mem.1 hx with rfl | rfl | ⟨p, hp, hx⟩
  · exact arr_lt H.top
  · exact map_lt H.map
  · obtain ⟨k, l, _, ⟨v, a, b⟩, _⟩ := H.line hp
    rcases hx with rfl | hx
    · exact arr_lt a
    · exact b.lt x hx
theorem DeskAt.fwd {h h' : Hp} {id idm : Nat} {ps : List (Nat × List Nat)} {d : Desk} (H : DeskAt h id idm ps d) {ids : List Nat} (f : Fwd ids h h') (hi : ∀ x ∈ ids, x ∉ own id idm ps) : DeskAt h' id idm ps d := by
  refine ⟨f.arr H.top fun q => hi _ q (by simp [own]), f.map H.map fun q => hi _ q (by simp [own]), H.len, fun i k l p fp h1 h2 => ?_, H.dis, by rw [f.lim]; exact H.lim⟩
  have hm := List.mem_of_getElem? h2
  exact (H.lines i k l p fp h1 h2).fwd f (fun q => hi _ q (own_mem.2 (.inr (.inr ⟨_, hm, .inl rfl⟩)))) (fun x hx q => hi _ q (own_mem.2 (.inr (.inr ⟨_, hm, .inr hx⟩))))
/-- A line more. -/
theorem DeskAt.add {h h' : Hp} {id idm : Nat} {ps : List (Nat × List Nat)} {d : Desk} (H : DeskAt h id idm ps d) {s : Int} {l : Line} {p : Nat} {fp : List Nat} (f : Fwd [idm] h h') (hm : h'.mapOf idm = some (ents d.lines ps ++ [(iN s, .ptr p 0 0 0)])) (hL : LineAt h' p l fp)
    (hp : ∀ x ∈ p :: fp, h.objs.length ≤ x) (hn : (p :: fp).Nodup) : DeskAt h' id idm (ps ++ [(p, fp)]) ⟨d.conf, d.lines ++ [(s, l)]⟩ := by
  have hne : id ≠ idm := fun e => by
    have := H.dis
    simp [own, e] at this
  refine ⟨f.arr H.top (by simpa using hne), ?_, by simp [H.len], ?_, ?_, by rw [f.lim]; exact H.lim⟩
  · rw [hm]
    simp only [ents]
    rw [List.zipWith_append (by rw [H.len])]
    rfl
  · intro i k l' p' fp' h1 h2
    by_cases hi : i < d.lines.length
    · rw [List.getElem?_append_left hi] at h1
      rw [List.getElem?_append_left (by rw [H.len]; exact hi)] at h2
      have hd := H.dis
      have hmem := List.mem_of_getElem? h2
      simp only [own, List.nodup_cons, List.mem_cons, not_or] at hd
      refine (H.lines i k l' p' fp' h1 h2).fwd f ?_ ?_
      · intro q
        simp at q
        exact hd.2.1 (List.mem_flatMap.2 ⟨_, hmem, by simp [q]⟩)
      · intro x hx q
        simp at q
        exact hd.2.1 (List.mem_flatMap.2 ⟨_, hmem, by simp [← q, hx]⟩)
    · have hi' : i = d.lines.length := by
        have := (List.getElem?_eq_some_iff.1 h1).1
        simp at this
        omega
      subst hi'
      rw [List.getElem?_append_right (Nat.le_refl _)] at h1
      rw [List.getElem?_append_right (by rw [H.len]; exact Nat.le_refl _)] at h2
      simp [H.len] at h1 h2
      obtain ⟨rfl, rfl⟩ := h1
      obtain ⟨rfl, rfl⟩ := h2
      exact hL
  · have e : own id idm (ps ++ [(p, fp)]) = own id idm ps ++ (p :: fp) := by simp [own]
    rw [e]
    refine List.nodup_append.2 ⟨H.dis, hn, fun x hx y hy q => ?_⟩
    have := H.lt x hx
    have := hp y hy
    omega

theorem new_ok (c : Conf) (h : Hp) (hl : h.lim ≤ h.objs.length) (h1 : 1 ≤ c.q ∧ c.q ≤ 4096 ∧ 1 ≤ c.o ∧ c.o ≤ 4096) :
    WA (C0 n_qNew [.agg c.cells] h) fun v h' => ∃ id idm, v = .ptr id 0 0 0 ∧ DeskAt h' id idm [] ⟨c, []⟩ ∧ h.objs.length ≤ id ∧ h.objs.length ≤ idm ∧ Fwd [] h h' := by
  refine call_W noExt_mono (f := n_qNew) rfl rfl ?_
  have e1 : decide (c.q < 1) = false := by simp; omega
  have e2 : decide (c.q > 4096) = false := by simp; omega
  have e3 : decide (c.o < 1) = false := by simp; omega
  have e4 : decide (c.o > 4096) = false := by simp; omega
  simp [Conf.cells, Ends, e1, e2, e3, e4]
  refine ⟨h.objs.length + 1, ⟨?_, ?_, rfl, by simp, by simp [own], by simp; omega⟩, by omega, ?_⟩
  · simp [Conf.cells]
  · simp [ents]
  · repeat first | exact Fwd.refl _ _ | refine Fwd.new ?_ _

theorem lk {l n : Nat} (h : l ≤ n) : (∀ k, (l ≤ n + k) = True) ∧ (l ≤ n) = True := ⟨fun k => eq_true (by omega), eq_true h⟩

structure Cmd where
  (kind id n t k a b c d slot gen : Int)
  tab : List PD
  ta : Int
  tb : Bool
def Cmd.cells (c : Cmd) : List EV := [eI c.kind, eI c.id, eI c.n, eI c.t, eI c.k, eI c.a, eI c.b, eI c.c, eI c.d, eI c.slot, eI c.gen, .p (.list c.tab), eI c.ta, eB c.tb]
def doArgs (id : Nat) (s : Int) (c : Cmd) (o : EV) : List EV := [.ptr id 0 0 0, eI s, .agg c.cells, o]
/-- What Do does, its arguments once shared. -/
noncomputable def do0 (args : List EV) (h : Hp) : Option (EV × Hp) := body C0 { d_qDo with sha := false } args h
theorem do_call {args as : List EV} {h : Hp} {os : List Obj} {R : EV → Hp → Prop} (hs : shareVs h.lim args h.objs = some (as, os)) (hw : WA (do0 as ⟨os, h.lim⟩) R) : WA (C0 n_qDo args h) R := by
  obtain ⟨v, h1, e, q⟩ := body_sha (d := d_qDo) (C := C0) rfl hs hw
  exact ⟨v, h1, call_of_body noExt_mono (d := d_qDo) rfl e, q⟩
theorem do_run {args : List EV} {h : Hp} {R : EV → Hp → Prop} (hl : args.length = 4) (hw : Run C0 [.code d_qDo.body] .normal (args0 0 args) h (Ends d_qDo.res fun v h1 => R v (h1.back h.lim))) : WA (do0 args h) R :=
  body_W (d := { d_qDo with sha := false }) hl rfl rfl rfl (W_run hw)

def refCells (l : List (Int × Int)) : List (List EV) := l.map fun r => [eI r.1, eI r.2]
/-- What Do tells: an answer without matches; refs that are let go. -/
structure Tells (h h' : Hp) (v : EV) (err n : Int) (fp : List Nat) : Prop where
  is : ∃ r fr, v = .tup [.agg [eI err, eI n, .full []], r] ∧ Own h' 2 true r [] fr ∧ Grown fp h fr

theorem tells_of {h h' : Hp} {err n : Int} {fp : List Nat} {i : Nat} (ha : h'.arr i 0 = some ⟨0, 2, true, 0, []⟩) (hl : h'.lim ≤ i) (hi : h.objs.length ≤ i) : Tells h h' (.tup [.agg [eI err, eI n, .full []], .arr i 0 2 0 0 false]) err n fp :=
  ⟨_, [i], rfl, by simpa using Own.arr (off := 0) (len := 0) (f := false) ha (by simp) (by simp) hl, fun y hy => .inr (by simp at hy; omega)⟩

theorem reg_full {h : Hp} {id idm : Nat} {ps : List (Nat × List Nat)} {d : Desk} (H : DeskAt h id idm ps d) (hl : h.lim ≤ h.objs.length) {s : Int} {c : Cmd} {o : EV} (hk : c.kind = 2) (hq : d.conf.q ≤ d.lines.length) :
    WA (do0 (doArgs id s c o) h) fun v h' => Tells h h' v 16 0 [] ∧ Fwd [] h h' := by
  refine do_run rfl ?_
  have el : (ents d.lines ps).length = d.lines.length := by simp [ents, H.len]
  have l1 := arr_lt H.top
  have l2 := map_lt H.map
  have top := H.top
  simp only [Conf.cells, List.cons_append, List.nil_append] at top
  have e1 : decide (d.conf.q ≤ (d.lines.length : Int)) = true := by simpa using hq
  simp [doArgs, Cmd.cells, hk, Ends, d_qDo, top, H.map, el, nl l1, nl l2, e1, lk hl]
  exact ⟨tells_of (by simp) (by simp; omega) (by omega), by repeat first | exact Fwd.refl _ _ | refine Fwd.set ?_ _ (by simp) | refine Fwd.new ?_ _⟩

def fresh (s : Int) (d : Desk) : Prop := ∀ l ∈ d.lines, l.1 ≠ s
theorem ents_alike (ls : List (Int × Line)) (ps : List (Nat × List Nat)) (s : Int) : (ents ls ps).all (fun e => PD.alike .int (iN s) e.1) = true := by
  induction ls generalizing ps with
  | nil => simp [ents]
  | cons l ls ih =>
    cases ps with
    | nil => simp [ents]
    | cons p ps => simpa [ents, PD.alike] using ih ps
theorem ents_fresh {ls : List (Int × Line)} {ps : List (Nat × List Nat)} {s : Int} {v : EV} (h : ∀ l ∈ ls, l.1 ≠ s) : setKey (iN s) v (ents ls ps) = ents ls ps ++ [(iN s, v)] := by
  induction ls generalizing ps with
  | nil => simp [ents, setKey]
  | cons l ls ih =>
    cases ps with
    | nil => simp [ents, setKey]
    | cons p ps =>
      have h1 : l.1 ≠ s := h l (by simp)
      have h2 : PD.eqb (iN s) (iN l.1) = false := by simp [PD.eqb, Ne.symm h1]
      have := ih (ps := ps) (fun l hl => h l (by simp [hl]))
      simp only [ents, List.zipWith_cons_cons, setKey, h2, Bool.false_eq_true, if_false, List.cons_append] at this ⊢
      rw [this]

theorem reg_new {h : Hp} {id idm : Nat} {ps : List (Nat × List Nat)} {d : Desk} (H : DeskAt h id idm ps d) (hl : h.lim ≤ h.objs.length) {s : Int} {c : Cmd} {o : EV} (hk : c.kind = 2) (hq : d.lines.length < d.conf.q) (hf : fresh s d) :
    WA (do0 (doArgs id s c o) h) fun v h' => ∃ p, Tells h h' v 0 s [] ∧ Fwd (own id idm ps) h h' ∧ h.objs.length ≤ p ∧ DeskAt h' id idm (ps ++ [(p, [])]) ⟨d.conf, d.lines ++ [(s, ⟨[], false⟩)]⟩ := by
  refine do_run rfl ?_
  have el : (ents d.lines ps).length = d.lines.length := by simp [ents, H.len]
  have l1 := arr_lt H.top
  have l2 := map_lt H.map
  have top := H.top
  simp only [Conf.cells, List.cons_append, List.nil_append] at top
  have e1 : decide (d.conf.q ≤ (d.lines.length : Int)) = false := by simpa using hq
  have e2 : ∀ h1 : Hp, h1.mapOf idm = some (ents d.lines ps) → h1.lim = h.lim → ∀ v, mapSet .int (.map idm) (eI s) v h1 = some (h1.setMap idm (ents d.lines ps ++ [(iN s, v)])) := by
    intro h1 q1 q2 v
    rw [mapSet_ok q1 (by simp [PD.alike]) (ents_alike _ _ _) (by rw [q2]; exact H.lim.2), ents_fresh hf]
  simp [doArgs, Cmd.cells, hk, Ends, d_qDo, top, H.map, el, nl l1, nl l2, e1, lk hl]
  rw [e2 _ (by simp [H.map, nl l2]) (by simp)]
  simp [Ends, nl l1, nl l2, lk hl]
  refine ⟨tells_of (by simp [nl l2]) (by simp; omega) (by omega), by repeat first | exact Fwd.refl _ _ | refine Fwd.set ?_ _ (by simp) | refine Fwd.new ?_ _ | refine Fwd.setMap ?_ _ (by simp [own]), h.objs.length + 3, by omega, H.add ?_ ?_ ⟨⟨.full [], ?_, .nil⟩, ?_⟩ (by simp) (by simp)⟩
  · repeat first | exact Fwd.refl _ _ | refine Fwd.set ?_ _ (by simp) | refine Fwd.new ?_ _ | refine Fwd.setMap ?_ _ (by simp)
  · simp [nl l2]
  · simp [nl l2]
  · simp; omega

theorem ents_none {ls : List (Int × Line)} {ps : List (Nat × List Nat)} {s : Int} (h : ∀ l ∈ ls, l.1 ≠ s) : findKey (iN s) (ents ls ps) = none := by
  induction ls generalizing ps with
  | nil => simp [ents, findKey]
  | cons l ls ih =>
    cases ps with
    | nil => simp [ents, findKey]
    | cons p ps =>
      have h1 : l.1 ≠ s := h l (by simp)
      have h2 : PD.eqb (iN s) (iN l.1) = false := by simp [PD.eqb, Ne.symm h1]
      have := ih (ps := ps) (fun l hl => h l (by simp [hl]))
      simp only [ents, List.zipWith_cons_cons, findKey, h2, Bool.false_eq_true, if_false] at this ⊢
      exact this
theorem ents_some {a b : List (Int × Line)} {pa pb : List (Nat × List Nat)} {k : Int} {l : Line} {p : Nat} {fp : List Nat} (hl : pa.length = a.length) (h : ∀ x ∈ a, x.1 ≠ k) : findKey (iN k) (ents (a ++ (k, l) :: b) (pa ++ (p, fp) :: pb)) = some (.ptr p 0 0 0) := by
  induction a generalizing pa with
  | nil =>
    have : pa = [] := by simpa using hl
    subst this
    simp [ents, findKey]
  | cons x a ih =>
    cases pa with
    | nil => simp at hl
    | cons q pa =>
      have h1 : x.1 ≠ k := h x (by simp)
      have h2 : PD.eqb (iN k) (iN x.1) = false := by simp [PD.eqb, Ne.symm h1]
      have := ih (pa := pa) (by simpa using hl) (fun y hy => h y (by simp [hy]))
      simp only [ents, List.cons_append, List.zipWith_cons_cons, findKey, h2, Bool.false_eq_true, if_false] at this ⊢
      exact this

theorem bad_kind {h : Hp} {id idm : Nat} {ps : List (Nat × List Nat)} {d : Desk} (H : DeskAt h id idm ps d) (hl : h.lim ≤ h.objs.length) {s : Int} {c : Cmd} {o : EV} (hk : c.kind ≠ 1 ∧ c.kind ≠ 2 ∧ c.kind ≠ 3 ∧ c.kind ≠ 4 ∧ c.kind ≠ 5) :
    WA (do0 (doArgs id s c o) h) fun v h' => Tells h h' v 1 0 [] ∧ Fwd [] h h' := by
  refine do_run rfl ?_
  obtain ⟨e1, e2, e3, e4, e5⟩ := hk
  have l1 := arr_lt H.top
  simp [doArgs, Cmd.cells, Ends, d_qDo, nl l1, e1, e2, e3, e4, e5, lk hl]
  exact ⟨tells_of (by simp) (by simp; omega) (by omega), by repeat first | exact Fwd.refl _ _ | refine Fwd.set ?_ _ (by simp) | refine Fwd.new ?_ _⟩

theorem unreg_none {h : Hp} {id idm : Nat} {ps : List (Nat × List Nat)} {d : Desk} (H : DeskAt h id idm ps d) (hl : h.lim ≤ h.objs.length) {s : Int} {c : Cmd} {o : EV} (hk : c.kind = 3) (hf : fresh c.id d) :
    WA (do0 (doArgs id s c o) h) fun v h' => Tells h h' v 15 0 [] ∧ Fwd [] h h' := by
  refine do_run rfl ?_
  have l1 := arr_lt H.top
  have l2 := map_lt H.map
  have top := H.top
  simp only [Conf.cells, List.cons_append, List.nil_append] at top
  have e2 : ∀ h1 : Hp, h1.mapOf idm = some (ents d.lines ps) → mapGet .int .nilp (.map idm) (eI c.id) h1 = some (.nilp, false) := by
    intro h1 q1
    rw [mapGet_ok q1 (by simp [PD.alike]) (ents_alike _ _ _), ents_none hf]
  simp [doArgs, Cmd.cells, hk, Ends, d_qDo, top, H.map, nl l1, nl l2, lk hl]
  rw [e2 _ (by simp [H.map, nl l2])]
  simp [Ends, nl l1, nl l2, lk hl]
  exact ⟨tells_of (by simp) (by simp; omega) (by omega), by repeat first | exact Fwd.refl _ _ | refine Fwd.set ?_ _ (by simp) | refine Fwd.new ?_ _⟩

theorem poll_arg {h : Hp} {id idm : Nat} {ps : List (Nat × List Nat)} {d : Desk} (H : DeskAt h id idm ps d) (hl : h.lim ≤ h.objs.length) {c : Cmd} (hn : c.n < 1) :
    WA (C0 n_poll [.ptr id 0 0 0, .agg c.cells] h) fun v h' => Tells h h' v 1 0 [] ∧ Fwd [] h h' := by
  refine call_W noExt_mono (f := n_poll) rfl rfl ?_
  have l1 := arr_lt H.top
  have l2 := map_lt H.map
  have top := H.top
  simp only [Conf.cells, List.cons_append, List.nil_append] at top
  have e3 : decide (c.n < 1) = true := by simpa using hn
  simp [Cmd.cells, Ends, top, H.map, nl l1, nl l2, lk hl]
  rw [mapGet_ok (es := ents d.lines ps) (by simp [H.map, nl l2]) (by simp [PD.alike]) (ents_alike _ _ _)]
  generalize findKey (iN c.id) (ents d.lines ps) = q
  cases q <;> simp [Ends, nl l1, nl l2, lk hl, e3, hn]
  · exact ⟨tells_of (by simp) (by simp; omega) (by omega), by repeat first | exact Fwd.refl _ _ | refine Fwd.set ?_ _ (by simp) | refine Fwd.new ?_ _⟩
  · exact ⟨tells_of (by simp) (by simp; omega) (by omega), by repeat first | exact Fwd.refl _ _ | refine Fwd.set ?_ _ (by simp) | refine Fwd.new ?_ _⟩

theorem poll_none {h : Hp} {id idm : Nat} {ps : List (Nat × List Nat)} {d : Desk} (H : DeskAt h id idm ps d) (hl : h.lim ≤ h.objs.length) {c : Cmd} (hn : 1 ≤ c.n) (hf : fresh c.id d) :
    WA (C0 n_poll [.ptr id 0 0 0, .agg c.cells] h) fun v h' => Tells h h' v 15 0 [] ∧ Fwd [] h h' := by
  refine call_W noExt_mono (f := n_poll) rfl rfl ?_
  have l1 := arr_lt H.top
  have l2 := map_lt H.map
  have top := H.top
  simp only [Conf.cells, List.cons_append, List.nil_append] at top
  have e2 : ∀ h1 : Hp, h1.mapOf idm = some (ents d.lines ps) → mapGet .int .nilp (.map idm) (eI c.id) h1 = some (.nilp, false) := by
    intro h1 q1
    rw [mapGet_ok q1 (by simp [PD.alike]) (ents_alike _ _ _), ents_none hf]
  have e3 : decide (c.n < 1) = false := by simpa using hn
  simp [Cmd.cells, Ends, top, H.map, nl l1, nl l2, lk hl]
  rw [e2 _ (by simp [H.map, nl l2])]
  simp [Ends, nl l1, nl l2, lk hl, e3]
  exact ⟨tells_of (by simp) (by simp; omega) (by omega), by repeat first | exact Fwd.refl _ _ | refine Fwd.set ?_ _ (by simp) | refine Fwd.new ?_ _⟩

/-- A poll, through Do. -/
theorem do_poll {h : Hp} {id : Nat} (hl : h.lim ≤ h.objs.length) {s : Int} {c : Cmd} {o : EV} (hk : c.kind = 4) {K : EV → Hp → Prop}
    (hp : ∀ h1, Fwd [] h h1 → h1.lim ≤ h1.objs.length → h.objs.length + 2 < h1.objs.length → WA (C0 n_poll [.ptr id 0 0 0, .agg c.cells] h1) fun v h2 => Fwd (List.range h.objs.length) h1 h2 ∧ ∃ x r, v = .tup [.agg x, r] ∧ x.length = 3 ∧ ones x = true ∧
      ∀ h3, Fwd [h.objs.length + 1] h2 h3 → K v h3) : WA (do0 (doArgs id s c o) h) K := by
  refine do_run rfl ?_
  simp [doArgs, Cmd.cells, hk, Ends, d_qDo, lk hl]
  have e0 := hp ((((h.new (.cells ⟨0, 14, true, 0, [c.cells]⟩)).new (.cells ⟨0, 3, true, 0, [[eI 0, eI 0, .full []]]⟩)).new (.cells ⟨0, 2, true, 0, []⟩))) (by repeat first | exact Fwd.refl _ _ | refine Fwd.new ?_ _) (by simp; omega) (by simp)
  simp only [Cmd.cells, hk] at e0
  refine PutA_of e0 ?_
  rintro v h2 ⟨f2, x, r, rfl, hx1, hx2, hK⟩
  have a2 := f2.arr (id := h.objs.length + 1) (g := 0) (ar := ⟨0, 3, true, 0, [[eI 0, eI 0, .full []]]⟩) (by simp) (by simp)
  have lm : h2.lim = h.lim := f2.lim
  have l3 : h.lim ≤ h.objs.length + 1 := by omega
  have l4 := arr_lt a2
  have t3 : x.take 3 = x := List.take_of_length_le (by omega)
  simp [Ends, a2, hx1, hx2, lm, l3, l4, t3, Hp.back_of lm]
  exact hK _ ((Fwd.refl _ _).set _ (by simp))

theorem Tells.fwd {h0 h h' : Hp} {v : EV} {err n : Int} {fp fp' ids : List Nat} (H : Tells h0 h v err n fp) (f : Fwd ids h h') (hi : ∀ x ∈ ids, x < h0.objs.length ∧ x ∉ fp) : Tells h0 h' v err n fp := by
  obtain ⟨r, fr, e, o, g⟩ := H.is
  refine ⟨r, fr, e, o.fwd f fun x hx q => ?_, g⟩
  obtain ⟨h1, h2⟩ := hi x q
  rcases g x hx with q2 | q2
  · exact h2 q2
  · omega

theorem do_poll_arg {h : Hp} {id idm : Nat} {ps : List (Nat × List Nat)} {d : Desk} (H : DeskAt h id idm ps d) (hl : h.lim ≤ h.objs.length) {s : Int} {c : Cmd} {o : EV} (hk : c.kind = 4) (hn : c.n < 1) :
    WA (do0 (doArgs id s c o) h) fun v h' => Tells h h' v 1 0 [] ∧ Fwd [] h h' := by
  refine do_poll hl hk fun h1 f1 hl1 hl2 => ?_
  have H1 := H.fwd f1 (by simp)
  obtain ⟨v, h2, e, hT, f2⟩ := poll_arg H1 hl1 hn
  obtain ⟨r, fr, rfl, ow, g⟩ := hT.is
  refine ⟨_, h2, e, f2.mono (by simp), _, r, rfl, rfl, by simp [ones], fun h3 f3 => ⟨⟨r, fr, rfl, ow.fwd f3 fun x hx q => ?_, fun y hy => ?_⟩, ?_⟩⟩
  · have := f1.len
    simp at q
    rcases g x hx with q2 | q2
    · cases q2
    · omega
  · rcases g y hy with q2 | q2
    · cases q2
    · have := f1.len
      exact .inr (by omega)
  · exact (f1.trans f2).trans' f3 (by simp)

end Dk.Q
