/- What a desk does with a command: all of it. -/
import Derived.Test.YtcbigcpdbidlaaaRest
set_option linter.unusedVariables false
set_option linter.unusedSimpArgs false
set_option linter.unusedSectionVars false
namespace Dk.Q
open Go Dk

/-- What a command does to the lines; what is told, and let go. -/
inductive Does (cf : Conf) (s : Int) (c : Cmd) (outs : List OutV) : List (Int × Line) → List (Int × Line) → Int → Int → List Fnd → List (Int × Int) → Prop
  | full {ls} : c.kind = 2 → cf.q ≤ (ls.length : Int) → Does cf s c outs ls ls 16 0 [] []
  | new {ls} : c.kind = 2 → (ls.length : Int) < cf.q → Does cf s c outs ls (ls ++ [(s, ⟨[], false⟩)]) 0 s [] []
  | endNone {ls} : c.kind = 3 → (∀ l ∈ ls, l.1 ≠ c.id) → Does cf s c outs ls ls 15 0 [] []
  | ends {a b l} : c.kind = 3 → (∀ y ∈ a, y.1 ≠ c.id) → Does cf s c outs (a ++ (c.id, l) :: b) (a ++ b) 0 0 [] (allRefs l.row)
  | few {ls} : c.kind = 4 → c.n < 1 → Does cf s c outs ls ls 1 0 [] []
  | askNone {ls} : c.kind = 4 → 1 ≤ c.n → (∀ l ∈ ls, l.1 ≠ c.id) → Does cf s c outs ls ls 15 0 [] []
  | askLost {a b l} : c.kind = 4 → 1 ≤ c.n → (∀ y ∈ a, y.1 ≠ c.id) → l.row = [] → l.lost = true → Does cf s c outs (a ++ (c.id, l) :: b) (a ++ (c.id, l) :: b) 20 0 [] []
  | ask {a b l} : c.kind = 4 → 1 ≤ c.n → (∀ y ∈ a, y.1 ≠ c.id) → (l.row = [] → l.lost = false) → Does cf s c outs (a ++ (c.id, l) :: b) (a ++ (c.id, ⟨l.row.drop c.n.toNat, l.lost⟩) :: b) 0 0 (l.row.take c.n.toNat) (allRefs (l.row.take c.n.toNat))
  | publish {ls ls' ls'' R} : c.kind = 1 → HitsDo cf.o (mergeF (total (outs.map OutV.hits)) (outs.map OutV.hits)) ls ls' R → MarksDo (outs.flatMap OutV.lost) ls' ls'' → Does cf s c outs ls ls'' 0 s [] (R ++ [(c.slot, c.gen)])
  | close {ls} : c.kind = 5 → Does cf s c outs ls ls 0 s [] []
  | bad {ls} : c.kind ≠ 1 ∧ c.kind ≠ 2 ∧ c.kind ≠ 3 ∧ c.kind ≠ 4 ∧ c.kind ≠ 5 → Does cf s c outs ls ls 1 0 [] []

/-- Matches as they come. -/
structure FndOK (f : Fnd) : Prop where
  refs : f.refs.length ≤ 2
  sets : ∃ S : List (List Int), f.sets = S.map (fun l => .list (l.map iN)) ∧ S.length ≤ 2 ∧ ∀ l ∈ S, l.length ≤ 1
/-- Rows are no longer than they may be. -/
def Fit (cf : Conf) (ls : List (Int × Line)) : Prop := ∀ y ∈ ls, (y.2.row.length : Int) ≤ cf.o ∧ ∀ f ∈ y.2.row, FndOK f
/-- Hits by ids. -/
def Sorted (l : List Hit) : Prop := l.Pairwise fun x y => x.id ≤ y.id
structure OutOK (o : OutV) : Prop where
  sorted : Sorted o.hits
  few : o.hits.length ≤ 6
  hits : ∀ x ∈ o.hits, FndOK x.f ∧ 0 ≤ x.id ∧ x.id ≤ 11
  lost : o.lost.length ≤ 2
structure OutsOK (outs : List OutV) : Prop where
  len : outs.length = 3
  all : ∀ o ∈ outs, OutOK o

theorem stepM_mem {rows rs : List (List Hit)} {x : Hit} (h : stepM rows = some (x, rs)) : ∃ k r, rows[k]? = some (x :: r) ∧ rs = rows.set k r := by
  unfold stepM at h
  split at h
  · cases h
  · split at h
    · rename_i y r e
      cases h
      exact ⟨_, _, e, rfl⟩
    · cases h
theorem mergeF_len : ∀ (n : Nat) (rows : List (List Hit)), (mergeF n rows).length ≤ n
  | 0, _ => by simp [mergeF]
  | n + 1, rows => by
    simp only [mergeF]
    split
    · have := mergeF_len n
      simp only [List.length_cons]
      exact Nat.succ_le_succ (this _)
    · simp
theorem mergeF_all {P : Hit → Prop} : ∀ (n : Nat) (rows : List (List Hit)), (∀ l ∈ rows, ∀ x ∈ l, P x) → ∀ x ∈ mergeF n rows, P x
  | 0, _, _, x, h => by simp [mergeF] at h
  | n + 1, rows, hp, x, h => by
    simp only [mergeF] at h
    split at h
    · rename_i y rs e
      obtain ⟨k, r, e1, rfl⟩ := stepM_mem e
      have hm := hp _ (List.mem_of_getElem? e1)
      rcases List.mem_cons.1 h with rfl | h
      · exact hm _ (by simp)
      · refine mergeF_all n _ (fun l hl z hz => ?_) x h
        rcases List.mem_or_eq_of_mem_set hl with q | rfl
        · exact hp l q z hz
        · exact hm z (by simp [hz])
    · cases h

theorem total_le : ∀ {rows : List (List Hit)}, (∀ l ∈ rows, l.length ≤ 6) → total rows ≤ rows.length * 6
  | [], _ => by simp [total]
  | l :: r, h => by
    have h1 := h l (by simp)
    have h2 := total_le (rows := r) fun y hy => h y (by simp [hy])
    simp only [total, List.map_cons, List.sum_cons, List.length_cons] at h2 ⊢
    omega
theorem allRefs_len : ∀ {row : List Fnd}, (∀ f ∈ row, FndOK f) → (allRefs row).length ≤ row.length * 2
  | [], _ => by simp [allRefs]
  | f :: r, h => by
    have h1 := (h f (by simp)).refs
    have h2 := allRefs_len (row := r) fun y hy => h y (by simp [hy])
    simp only [allRefs, List.flatMap_cons, List.length_append, List.length_cons] at h2 ⊢
    omega

/-- What a call of Do leaves. -/
structure Done (cf : Conf) (s : Int) (c : Cmd) (outs : List OutV) (id idm : Nat) (ps : List (Nat × List Nat)) (ls : List (Int × Line)) (h : Hp) (v : EV) (h' : Hp) : Prop where
  is : ∃ err n m r fm fr ps' ls' ms R, v = .tup [.agg [eI err, eI n, m], r] ∧ Does cf s c outs ls ls' err n ms R ∧ DeskAt h' id idm ps' ⟨cf, ls'⟩ ∧ Own h' 1 false m (setCells ms) fm ∧ Own h' 2 true r (refCells R) fr ∧
    (∀ y ∈ own id idm ps', y ∈ own id idm ps ∨ h.objs.length ≤ y) ∧ (∀ y ∈ fm, h.objs.length ≤ y) ∧ (∀ y ∈ fr, y ∈ own id idm ps ∨ h.objs.length ≤ y)
  fw : Fwd (own id idm ps) h h'
theorem done_tells {cf : Conf} {s : Int} {c : Cmd} {outs : List OutV} {id idm : Nat} {ps ps' : List (Nat × List Nat)} {ls ls' : List (Int × Line)} {h h' : Hp} {v : EV} {err n : Int} (hd : Does cf s c outs ls ls' err n [] []) (T : Tells h h' v err n []) (H : DeskAt h' id idm ps' ⟨cf, ls'⟩) (f : Fwd (own id idm ps) h h')
    (g : ∀ y ∈ own id idm ps', y ∈ own id idm ps ∨ h.objs.length ≤ y) : Done cf s c outs id idm ps ls h v h' := by
  obtain ⟨r, fr, rfl, o, gr⟩ := T.is
  exact ⟨⟨err, n, .full [], r, [], fr, ps', ls', [], [], rfl, hd, H, .nil, o, g, by simp, fun y hy => .inr ((gr y hy).resolve_left (by simp))⟩, f⟩

theorem does0 {cf : Conf} {s : Int} {c : Cmd} {outs : List OutV} {id idm : Nat} {ps : List (Nat × List Nat)} {ls : List (Int × Line)} {h : Hp} (H : DeskAt h id idm ps ⟨cf, ls⟩) (hl : h.lim ≤ h.objs.length) (hf : Fit cf ls) (hs : ∀ y ∈ ls, y.1 ≠ s) (ho : cf.o ≤ 4096) (hk : c.kind = 1 → OutsOK outs) :
    WA (do0 (doArgs id s c (.p (.list (outs.map OutV.pd)))) h) (Done cf s c outs id idm ps ls h) := by
  by_cases k1 : c.kind = 1
  · have O := hk k1
    have hall : ∀ l ∈ outs.map OutV.hits, ∀ x ∈ l, FndOK x.f := fun l hl x hx => by
      obtain ⟨o, ho, rfl⟩ := List.mem_map.1 hl
      exact ((O.all o ho).hits x hx).1
    have htot : total (outs.map OutV.hits) ≤ 18 := by
      have := total_le (rows := outs.map OutV.hits) fun l hl => by
        obtain ⟨o, ho, rfl⟩ := List.mem_map.1 hl
        exact (O.all o ho).few
      simp [O.len] at this
      omega
    have hml := mergeF_len (total (outs.map OutV.hits)) (outs.map OutV.hits)
    refine do_publish H hl k1 (by rw [O.len]; omega) (by rw [O.len]; omega) (B := 2) (fun x hx => (mergeF_all _ _ hall x hx).refs) (by omega) ho (fun y hy => (hf y hy).1) (fun o ho => by have := (O.all o ho).lost; omega) ?_
    intro v fr h' ls' ls'' R ps' H' D1 D2 Ow f g1 g2 _
    exact ⟨⟨0, s, .full [], v, [], fr, ps', ls'', [], _, rfl, .publish k1 D1 D2, H', .nil, Ow, g1, by simp, fun y hy => (g2 y hy).1⟩, f⟩
  by_cases k2 : c.kind = 2
  · by_cases hq : cf.q ≤ (ls.length : Int)
    · exact WA.mono (reg_full H hl k2 hq) fun v h' ⟨T, f⟩ => done_tells (.full k2 hq) T (H.fwd f (by simp)) (f.mono (by simp)) fun y hy => .inl hy
    · refine WA.mono (reg_new H hl k2 (by simpa using hq) hs) fun v h' ⟨p, T, f, hp, H'⟩ => done_tells (.new k2 (by omega)) T H' f fun y hy => ?_
      have e : own id idm (ps ++ [(p, [])]) = own id idm ps ++ [p] := by simp [own]
      rw [e] at hy
      rcases List.mem_append.1 hy with q | q
      · exact .inl q
      · simp at q; exact .inr (by omega)
  by_cases k3 : c.kind = 3
  · rcases split_line c.id ls with hno | ⟨a, l, b, rfl, hfr⟩
    · exact WA.mono (unreg_none H hl k3 hno) fun v h' ⟨T, f⟩ => done_tells (.endNone k3 hno) T (H.fwd f (by simp)) (f.mono (by simp)) fun y hy => .inl hy
    · obtain ⟨pa, p, fp, pb, rfl, hla⟩ := split_ps (ps := ps) (n := a.length) (by rw [H.len]; simp)
      have hF := hf (c.id, l) (by simp)
      have hF1 := hF.1
      have hr := allRefs_len hF.2
      simp only at hF1 hr
      refine WA.mono (unreg_some H hla hfr hl k3 rfl (by omega) (by omega)) fun v h' ⟨r, fr, e, O, g, f, H'⟩ => ?_
      refine ⟨⟨0, 0, .full [], r, [], fr, pa ++ pb, a ++ b, [], _, e, .ends k3 hfr, H', .nil, O, fun y hy => .inl ?_, by simp, fun y hy => .inr ((g y hy).resolve_left (by simp))⟩, f.mono (by simp [own])⟩
      rw [own_mem] at hy ⊢
      rcases hy with q | q | ⟨x, q, z⟩
      · exact .inl q
      · exact .inr (.inl q)
      · refine .inr (.inr ⟨x, ?_, z⟩)
        rcases List.mem_append.1 q with q | q
        · simp [q]
        · simp [q]
  by_cases k4 : c.kind = 4
  · by_cases hn : c.n < 1
    · exact WA.mono (do_poll_arg H hl k4 hn) fun v h' ⟨T, f⟩ => done_tells (.few k4 hn) T (H.fwd f (by simp)) (f.mono (by simp)) fun y hy => .inl hy
    have hn : 1 ≤ c.n := by omega
    rcases split_line c.id ls with hno | ⟨a, l, b, rfl, hfr⟩
    · exact WA.mono (do_poll_none H hl k4 hn hno) fun v h' ⟨T, f⟩ => done_tells (.askNone k4 hn hno) T (H.fwd f (by simp)) (f.mono (by simp)) fun y hy => .inl hy
    · obtain ⟨pa, p, fp, pb, rfl, hla⟩ := split_ps (ps := ps) (n := a.length) (by rw [H.len]; simp)
      have hF := hf (c.id, l) (by simp)
      have hF1 := hF.1
      have hr := allRefs_len hF.2
      simp only at hF1 hr
      by_cases hlo : l.row = [] ∧ l.lost = true
      · exact WA.mono (do_poll_lost H hla hfr hl k4 hn rfl hlo.1 hlo.2) fun v h' ⟨T, f⟩ => done_tells (.askLost k4 hn hfr hlo.1 hlo.2) T (H.fwd f (by simp)) (f.mono (by simp)) fun y hy => .inl hy
      have hlo' : l.row = [] → l.lost = false := fun e => by cases q : l.lost with
        | false => rfl
        | true => exact absurd ⟨e, q⟩ hlo
      refine WA.mono (do_poll_some H hla hfr hl k4 hn rfl hlo' (by omega) (by omega)) fun v h' ⟨m, r, fm, fr, fp', e, O1, O2, g1, g2, f, g3, H'⟩ => ?_
      refine ⟨⟨0, 0, m, r, fm, fr, pa ++ (p, fp') :: pb, _, _, _, e, .ask k4 hn hfr hlo', H', O1, O2, fun y hy => ?_, fun y hy => (g1 y hy).resolve_left (by simp), fun y hy => .inr ((g2 y hy).resolve_left (by simp))⟩, f.mono fun y hy => by simp at hy; subst hy; simp [own]⟩
      rw [own_split] at hy ⊢
      rcases List.mem_append.1 hy with q | q
      · exact .inl (List.mem_append_left _ q)
      · rcases List.mem_append.1 q with q | q
        · rcases List.mem_cons.1 q with rfl | q
          · exact .inl (by simp)
          · exact .inr ((g3 y q).resolve_left (by simp))
        · exact .inl (List.mem_append_right _ (List.mem_append_right _ q))
  by_cases k5 : c.kind = 5
  · exact WA.mono (do_close H hl k5) fun v h' ⟨T, f⟩ => done_tells (.close k5) T (H.fwd f (by simp)) (f.mono (by simp)) fun y hy => .inl hy
  · exact WA.mono (bad_kind H hl ⟨k1, k2, k3, k4, k5⟩) fun v h' ⟨T, f⟩ => done_tells (.bad ⟨k1, k2, k3, k4, k5⟩) T (H.fwd f (by simp)) (f.mono (by simp)) fun y hy => .inl hy
theorem does_ok {cf : Conf} {s : Int} {c : Cmd} {outs : List OutV} {id idm : Nat} {ps : List (Nat × List Nat)} {ls : List (Int × Line)} {h : Hp} (H : DeskAt h id idm ps ⟨cf, ls⟩) (hl : h.lim ≤ h.objs.length) (hf : Fit cf ls) (hs : ∀ y ∈ ls, y.1 ≠ s) (ho : cf.o ≤ 4096) (hk : c.kind = 1 → OutsOK outs) :
    WA (C0 n_qDo [.ptr id 0 0 0, eI s, .agg c.cells, .p (.list (outs.map OutV.pd))] h) (Done cf s c outs id idm ps ls h) := by
  exact do_call (as := doArgs id s c (.p (.list (outs.map OutV.pd)))) (os := h.objs) (by simp [shareVs, shareV, doArgs, Cmd.cells]) (does0 H hl hf hs ho hk)
end Dk.Q
