/- A desk goes on as the document says. -/
import Derived.Test.YtcbigcpdbidlaaaRefZ
set_option linter.unusedVariables false
set_option linter.unusedSimpArgs false
set_option linter.unusedSectionVars false
namespace Dk.Q
open Go Dk

theorem lines_ext : ∀ {ls es : List (Int × Line)}, (ls.map Prod.fst).Nodup → ls.map Prod.fst = es.map Prod.fst → (∀ k, lookL k ls = lookL k es) → ls = es
  | [], [], _, _, _ => rfl
  | [], _ :: _, _, h, _ => by simp at h
  | _ :: _, [], _, h, _ => by simp at h
  | (k, l) :: a, (k', l') :: b, hn, hk, hl => by
    simp only [List.map_cons, List.cons.injEq] at hk
    obtain ⟨rfl, hk⟩ := hk
    simp only [List.map_cons] at hn
    obtain ⟨n1, n2⟩ := List.nodup_cons.1 hn
    have h1 := hl k
    simp [lookL] at h1
    subst h1
    have nb : k ∉ b.map Prod.fst := by rw [← hk]; exact n1
    have none_ : ∀ {c : List (Int × Line)}, k ∉ c.map Prod.fst → lookL k c = none := fun h => lookL_none fun y hy e => h (List.mem_map.2 ⟨y, hy, e⟩)
    rw [lines_ext (ls := a) (es := b) n2 hk fun k' => by
      by_cases e : k' = k
      · subst e
        rw [none_ n1, none_ nb]
      · have := hl k'
        simpa [lookL, Ne.symm e] using this]

theorem out_came (outs : List OutV) : outRefs outs = hitRefs (cameOf outs) := by
  simp [outRefs, hitRefs, cameOf, List.flatMap_assoc]
theorem rdoes_fun {cf : Conf} {s : Int} {c : Cmd} {outs : List OutV} {ls ls' : List (Int × Line)} {err n : Int} {ms : List Fnd} {R : List (Int × Int)} (h : RDoes cf s c outs ls ls' err n ms R) (K : KeysOK s ls) (ho : c.kind = 1 → OutsOK outs) :
    (∀ k, lookL k ls' = lookAfter cf s c outs (decide (cf.q ≤ (ls.length : Int))) k (lookL k ls)) ∧ (err, n, ms) = ansAfter s c (decide (cf.q ≤ (ls.length : Int))) (lookL c.id ls) ∧ ls'.map Prod.fst = keysAfter s c (decide (cf.q ≤ (ls.length : Int))) (ls.map Prod.fst) := by
  rcases h with ⟨h1, xs, ls1, R1, I, h2, h3, rfl, rfl, rfl, rfl⟩ | ⟨-, h⟩
  · refine ⟨fun k => ?_, by simp [ansAfter, h1], by simp only [keysAfter, h1]; exact (marksDo_look h3).1.trans (hitsDo_look h2).1⟩
    have O := ho h1
    have e : atK k xs = atK k (merged outs) := by
      rw [I.at_ k]
      unfold merged
      rw [mergeF_at k _ _ (fun l hl => by
        obtain ⟨o, ho, rfl⟩ := List.mem_map.1 hl
        exact (O.all o ho).sorted) (Nat.le_refl _), List.flatMap_map]
      simp [cameOf, atK, List.filter_flatMap]
    have e2 : ∀ l, hitsL cf.o xs k l = hitsL cf.o (merged outs) k l := fun l => by
      simp only [hitsL]
      simp only [atK] at e
      rw [e]
    rw [(marksDo_look h3).2, (hitsDo_look h2).2]
    simp [lookAfter, h1, Function.comp_def, e2]
  · exact does_fun h K
theorem rdoes_wt {cf : Conf} {s : Int} {c : Cmd} {outs : List OutV} {ls ls' : List (Int × Line)} {err n : Int} {ms : List Fnd} {R : List (Int × Int)} (h : RDoes cf s c outs ls ls' err n ms R) (w : Int × Int → Nat) : wt w (heldRefs ls) + wt w (newRefs c outs) = wt w R + wt w (heldRefs ls') := by
  rcases h with ⟨h1, xs, ls1, R1, I, h2, h3, rfl, rfl, rfl, rfl⟩ | ⟨-, h⟩
  · have q1 := hits_wt h2 w
    rw [I.wt_ w, ← out_came] at q1
    simp only [newRefs, h1, if_true, wt_append, marks_wt h3]
    omega
  · exact does_wt h w
theorem cnt_wts (l : List (Int × Int)) (x : Int × Int) : cnt l x = wt (fun y => if y = x then 1 else 0) l := by
  induction l with
  | nil => rfl
  | cons y l ih =>
    have e : cnt (y :: l) x = cnt l x + if y = x then 1 else 0 := by
      unfold cnt
      rw [List.countP_cons]
      by_cases h : y = x <;> simp [h]
    have e2 : wt (fun y => if y = x then 1 else 0) (y :: l) = (if y = x then 1 else 0) + wt (fun y => if y = x then 1 else 0) l := by simp [wt]
    rw [e, e2, ih]
    omega
theorem len_wts (l : List (Int × Int)) : wt (fun _ => 1) l = l.length := by
  induction l with
  | nil => rfl
  | cons y l ih =>
    have : wt (fun _ => 1) (y :: l) = 1 + wt (fun _ => 1) l := by simp [wt]
    rw [this, ih, List.length_cons]
    omega
theorem outRefs_few : ∀ {outs : List OutV}, (∀ o ∈ outs, OutOK o) → (outRefs outs).length ≤ outs.length * 12
  | [], _ => by simp [outRefs]
  | o :: outs, h => by
    have h2 := outRefs_few (outs := outs) fun y hy => h y (by simp [hy])
    have O := h o (by simp)
    have : ∀ l : List Hit, (∀ x ∈ l, FndOK x.f) → (hitRefs l).length ≤ l.length * 2 := by
      intro l
      induction l with
      | nil => intro _; simp [hitRefs]
      | cons x l ih =>
        intro hh
        have q1 := (hh x (by simp)).refs
        have q2 := ih fun z hz => hh z (by simp [hz])
        simp only [hitRefs, List.flatMap_cons, List.length_append, List.length_cons] at q2 ⊢
        omega
    have h1 := this o.hits fun x hx => (O.hits x hx).1
    have := O.few
    simp only [outRefs, List.flatMap_cons, List.length_append, List.length_cons] at h2 ⊢
    omega

structure Alike (ls1 ls2 : List (Int × Line)) (err1 err2 n1 n2 : Int) (ms1 ms2 : List Fnd) (R1 R2 : List (Int × Int)) : Prop where
  ls : ls1 = ls2
  err : err1 = err2
  n : n1 = n2
  ms : ms1 = ms2
  refs : sameR R1 R2 = true
  len : R1.length < 1000000 ∧ R2.length < 1000000
theorem alike {cf : Conf} {s : Int} {c : Cmd} {outs : List OutV} {ls ls1 ls2 : List (Int × Line)} {err1 err2 n1 n2 : Int} {ms1 ms2 : List Fnd} {R1 R2 : List (Int × Int)} (h1 : Does cf s c outs ls ls1 err1 n1 ms1 R1) (h2 : RDoes cf s c outs ls ls2 err2 n2 ms2 R2)
    (L : Lives cf s ls) (ho : c.kind = 1 → OutsOK outs) (hq : cf.q ≤ 4) (hpos : 0 ≤ cf.o) (hmax : cf.o ≤ 4096) : Alike ls1 ls2 err1 err2 n1 n2 ms1 ms2 R1 R2 := by
  have L1 := does_lives h1 ho L hpos
  obtain ⟨a1, a2, a3⟩ := does_fun h1 L.keys
  obtain ⟨b1, b2, b3⟩ := rdoes_fun h2 L.keys ho
  have e : ls1 = ls2 := lines_ext L1.keys.once (a3.trans b3.symm) fun k => (a1 k).trans (b1 k).symm
  subst e
  have e2 := a2.trans b2.symm
  simp only [Prod.mk.injEq] at e2
  obtain ⟨rfl, rfl, rfl⟩ := e2
  have w : ∀ w, wt w R1 = wt w R2 := fun w => by
    have := does_wt h1 w
    have := rdoes_wt h2 w
    omega
  have wl := w fun _ => 1
  rw [len_wts, len_wts] at wl
  have dl := does_wt h1 fun _ => 1
  rw [len_wts, len_wts, len_wts, len_wts] at dl
  have hl := held_len L.fit (by have := L.few; omega) hmax
  have hn : (newRefs c outs).length ≤ 37 := by
    unfold newRefs
    split
    · rename_i hk
      have O := ho hk
      have := outRefs_few O.all
      rw [O.len] at this
      rw [List.length_append, List.length_singleton]
      omega
    · simp
  refine ⟨rfl, rfl, rfl, rfl, ?_, by omega, by omega⟩
  simp only [sameR, Bool.and_eq_true, decide_eq_true_eq, List.all_eq_true]
  refine ⟨wl, fun x _ => ?_⟩
  rw [cnt_wts, cnt_wts]
  exact w _
end Dk.Q
namespace Dk.Q
open Go Dk

def dIds : DC := .seq (.seq (.ops [S 91 (.mv (.t 16)),
        S 92 (.bin .lss .none (.t 91) (xI 13))])
      (.cond (.t 92)
       (.skip)
       (.exit 2)))
      (.seq (.block 3 (.seq (.ops [S 95 (.mv (.t 6)),
         S 96 (.mv (.t 16)),
         S 97 (.call n_qWaiting [(.t 95), (.t 96)]),
         S 98 (.mv (.t 7)),
         S 99 (.mv (.t 16)),
         S 100 (.call n_rWaiting [(.t 98), (.t 99)]),
         S 101 (.bin .neq .none (.t 97) (.t 100)),
         S 102 (.mv (.t 101)),
         ⟨(some 103), .mv (.t 6), (some (102, false)), []⟩,
         ⟨(some 104), .mv (.t 16), (some (102, false)), []⟩,
         ⟨(some 105), .call n_qLost [(.t 103), (.t 104)], (some (102, false)), []⟩,
         ⟨(some 106), .mv (.t 7), (some (102, false)), []⟩,
         ⟨(some 107), .mv (.t 16), (some (102, false)), []⟩,
         ⟨(some 108), .call n_rLost [(.t 106), (.t 107)], (some (102, false)), []⟩,
         ⟨(some 109), .bin .neq .bool (.t 105) (.t 108), (some (102, false)), []⟩,
         S 110 (.pick (.t 102) (xB true) (.t 109))])
       (.cond (.t 110)
        (.seq (.ops [S 4 (.mv (xB false))])
        (.ret))
        (.skip))))
      (.ops [S 93 (.mv (.t 16)),
        S 94 (.bin .add .none (.t 93) (xI 1)),
        S 16 (.mv (.t 94))]))
def dOut : DC := .seq (.seq (.ops [S 25 (.mv (.t 8)),
     S 26 (.mv (.t 1)),
     S 27 (.len 0 (.t 26)),
     S 28 (.bin .lss .none (.t 25) (.t 27)),
     S 29 (.mv (.t 28)),
     ⟨(some 30), .mv (.t 8), (some (29, true)), []⟩,
     ⟨(some 31), .bin .lss .none (.t 30) (xI 40), (some (29, true)), []⟩,
     S 32 (.pick (.t 29) (.t 31) (xB false))])
   (.cond (.t 32)
    (.skip)
    (.exit 0)))
   (.seq (.block 1 (.seq (.ops [S 36 (.mv (.t 1)),
      S 37 (.mv (.t 8)),
      S 38 (.ixa 6 (.t 36) (.t 37)),
      S 39 (.ld true 6 (.t 38)),
      S 40 (.mv (.t 8)),
      S 41 (.bin .add .none (.t 40) (xI 1)),
      S 42 (.call n_command [(.t 39), (.t 41)]),
      S 35 (.mv (.t 42)),
      S 43 (.ext (.t 35) 0),
      S 44 (.ext (.t 35) 1),
      S 9 (.new true [(eI 0), (eI 0), (eI 0), (eI 0), (eI 0), (eI 0), (eI 0), (eI 0), (eI 0), (eI 0), (eI 0), (.full []), (eI 0), (eB false)]),
      E (.st 14 (.t 9) (.t 43)),
      S 10 (.mv (.t 44))])
    (.seq (.ops [S 46 (.mv (.t 6)),
      S 47 (.mv (.t 8)),
      S 48 (.bin .add .none (.t 47) (xI 1)),
      S 49 (.ld true 14 (.t 9)),
      S 50 (.mv (.t 10)),
      S 51 (.call n_qDo [(.t 46), (.t 48), (.t 49), (.t 50)]),
      S 45 (.mv (.t 51)),
      S 52 (.ext (.t 45) 0),
      S 53 (.ext (.t 45) 1),
      S 11 (.new true [(eI 0), (eI 0), (.full [])]),
      E (.st 3 (.t 11) (.t 52)),
      S 12 (.mv (.t 53))])
    (.seq (.ops [S 54 (.mv (.t 7)),
      S 55 (.mv (.t 8)),
      S 56 (.bin .add .none (.t 55) (xI 1)),
      S 57 (.ld true 14 (.t 9)),
      S 58 (.mv (.t 10)),
      S 59 (.call n_rDo [(.t 54), (.t 56), (.t 57), (.t 58)]),
      S 13 (.new true [(eI 0), (eI 0), (.full []), (.full [])]),
      E (.st 4 (.t 13) (.t 59))])
    (.seq (.ops [S 60 (.ld true 3 (.t 11)),
      S 61 (.fld 0 (.t 13)),
      S 62 (.ld true 3 (.t 61)),
      S 63 (.call n_SameAnswer [(.t 60), (.t 62)]),
      S 14 (.mv (.t 63))])
    (.seq (.ops [S 64 (.mv (.t 12)),
      S 65 (.fld 3 (.t 13)),
      S 66 (.ld false 1 (.t 65)),
      S 67 (.call n_SameRefs [(.t 64), (.t 66)]),
      S 15 (.mv (.t 67))])
    (.seq (.seq (.ops [S 68 (.mv (.t 14)),
      S 69 (.un .not (.t 68)),
      S 70 (.mv (.t 69)),
      ⟨(some 71), .mv (.t 15), (some (70, false)), []⟩,
      ⟨(some 72), .un .not (.t 71), (some (70, false)), []⟩,
      S 73 (.pick (.t 70) (xB true) (.t 72)),
      S 74 (.mv (.t 73)),
      ⟨(some 75), .mv (.t 6), (some (74, false)), []⟩,
      ⟨(some 77), .mv (.t 7), (some (74, false)), []⟩,
      ⟨(some 76), .call n_qHeld [(.t 75)], (some (74, false)), []⟩,
      ⟨(some 78), .call n_rHeld [(.t 77)], (some (74, false)), []⟩,
      ⟨(some 79), .bin .neq .none (.t 76) (.t 78), (some (74, false)), []⟩,
      S 80 (.pick (.t 74) (xB true) (.t 79)),
      S 81 (.mv (.t 80)),
      ⟨(some 82), .mv (.t 6), (some (81, false)), []⟩,
      ⟨(some 84), .mv (.t 7), (some (81, false)), []⟩,
      ⟨(some 85), .nz (.t 84), (some (81, false)), []⟩,
      ⟨(some 86), .fld 7 (.t 85), (some (81, false)), []⟩,
      ⟨(some 87), .ld false 1 (.t 86), (some (81, false)), []⟩,
      ⟨(some 88), .len 0 (.t 87), (some (81, false)), []⟩,
      ⟨(some 83), .call n_qLive [(.t 82)], (some (81, false)), [(87, .ld false 1 (.t 86), (some (81, false)))]⟩,
      ⟨(some 89), .bin .neq .none (.t 83) (.t 88), (some (81, false)), []⟩,
      S 90 (.pick (.t 81) (xB true) (.t 89))])
    (.cond (.t 90)
     (.seq (.ops [S 4 (.mv (xB false))])
     (.ret))
     (.skip)))
    (.seq (.ops [S 16 (.mv (xI (-1)))])
    (.block 2 (.loop [1, 5, 6, 7, 8, 16] dIds))))))))))
   (.ops [S 33 (.mv (.t 8)),
     S 34 (.bin .add .none (.t 33) (xI 1)),
     S 8 (.mv (.t 34))]))
theorem both_ok {id1 idm1 rid : Nat} {ps1 : List (Nat × List Nat)} {qf : List Nat} {rs : List (EV × List Nat)} {cf : Conf} {ls : List (Int × Line)} {f : Fr} {h : Hp} {Q : Ex → Fr → Hp → Prop} {ks : List Ct} (H : DeskAt h id1 idm1 ps1 ⟨cf, ls⟩) (H' : RefAt h rid cf ls qf rs) (hb : ls.length < 1000000)
    (g6 : f.get 6 = .ptr id1 0 0 0) (g7 : f.get 7 = .ptr rid 0 0 0) (g16 : f.get 16 = eI (-1))
    (hQ : ∀ f', (∀ t ∈ [1, 5, 6, 7, 8], f'.get t = f.get t) → Run C0 ks .normal f' h Q) : Run C0 (.code (.loop [1, 5, 6, 7, 8, 16] dIds) :: .block 2 :: ks) .normal f h Q := by
  refine Run_loop (fun q f' h' => ∃ m : Nat, h' = h ∧ (∀ t ∈ [1, 5, 6, 7, 8], f'.get t = f.get t) ∧ f'.get 16 = eI ((m : Int) - 1) ∧ m ≤ 14 ∧ q = 14 - m) (n := 14) ⟨0, rfl, fun t _ => rfl, g16, by omega, rfl⟩ ?_
  rintro q f2 h2 ⟨m, rfl, Ie, I16, Ile, Iq⟩
  have e1 := Ie 1 (by simp)
  have e5 := Ie 5 (by simp)
  have e6 := (Ie 6 (by simp)).trans g6
  have e7 := (Ie 7 (by simp)).trans g7
  have e8 := Ie 8 (by simp)
  simp only [dIds]
  by_cases hm : m < 14
  · have hm' : ((m : Int) - 1) < 13 := by omega
    have w1 : IntKind.i64.wrap (((m : Int) - 1) + 1) = ((m + 1 : Nat) : Int) - 1 := by rw [wrap64 (by omega) (by omega)]; omega
    generalize hI : ((m : Int) - 1) = I at *
    simp [I16, hm', e6, e7]
    refine PutA_eq (waiting_ok H I) ?_
    simp [e6, e7]
    refine PutA_eq (rwaiting_ok H' hb I) ?_
    simp [e6, e7]
    refine PutA_eq (lostq_ok H I) ?_
    simp [e7]
    refine PutA_eq (rlost_ok H' hb I) ?_
    simp [w1]
    exact ⟨14 - (m + 1), by omega, ⟨e1, e5, g6.symm, g7.symm, e8⟩, m + 1, by omega, by omega, rfl⟩
  · obtain rfl : m = 14 := by omega
    simp [I16]
    exact hQ _ (by simp [e1, e5, e6, e7, e8, g6, g7])

/-- Where the law stands: a desk, and the reference's. -/
structure DoAt (cf : Conf) (acts : List Act) (id1 idm1 rid : Nat) (q : Nat) (f : Fr) (h : Hp) (i : Nat) (ps1 : List (Nat × List Nat)) (qf : List Nat) (rs : List (EV × List Nat)) (ls : List (Int × Line)) : Prop where
  g1 : f.get 1 = .p (.list (acts.map Act.pd))
  g5 : f.get 5 = eB true
  g6 : f.get 6 = .ptr id1 0 0 0
  g7 : f.get 7 = .ptr rid 0 0 0
  g8 : f.get 8 = eI i
  le : i ≤ 40
  q : q = 40 - i
  d1 : DeskAt h id1 idm1 ps1 ⟨cf, ls⟩
  d2 : RefAt h rid cf ls qf rs
  l1 : Lives cf ((i : Int) + 1) ls
  away : ∀ y ∈ own id1 idm1 ps1, y ∉ rOwn rid qf rs
  lim : h.lim = 0

theorem does_fits {cf : Conf} {s : Int} {c : Cmd} {outs : List OutV} {ls ls' : List (Int × Line)} {err n : Int} {ms : List Fnd} {R : List (Int × Int)} (h : Does cf s c outs ls ls' err n ms R) (F : Fit cf ls) (ho : 0 ≤ cf.o ∧ cf.o ≤ 4096) : (∀ f ∈ ms, FndOK f) ∧ ms.length < 1000000 := by
  cases h with
  | @ask a b l h1 h2 h3 h4 =>
    have := F (c.id, l) (by simp)
    refine ⟨fun f hf => this.2 f (List.mem_of_mem_take hf), ?_⟩
    have h5 := this.1
    simp only at h5
    rw [List.length_take]
    omega
  | _ => exact ⟨by simp, by simp⟩

theorem dos_round {cf : Conf} {acts : List Act} {id1 idm1 rid q i : Nat} {f : Fr} {h : Hp} {ps1 : List (Nat × List Nat)} {qf : List Nat} {rs : List (EV × List Nat)} {ls : List (Int × Line)} {Q : Ex → Fr → Hp → Prop} (hcf : 0 ≤ cf.o ∧ cf.o ≤ 4096 ∧ cf.q ≤ 4) (I : DoAt cf acts id1 idm1 rid q f h i ps1 qf rs ls)
    (hQ : ∀ f', f'.get 5 = eB true → Q (.exit 0) f' h)
    (hN : ∀ f' h' ps1 qf rs ls, DoAt cf acts id1 idm1 rid (40 - (i + 1)) f' h' (i + 1) ps1 qf rs ls → 40 - (i + 1) < q → Q .normal f' h') : Run C0 [.code dOut] .normal (mask [1, 5, 6, 7, 8] f) h Q := by
  obtain ⟨g1, g5, g6, g7, g8, le, hq, D1, D2, L1, away, lim⟩ := I
  simp only [dOut]
  by_cases hi : i < acts.length
  · by_cases hi2 : i < 40
    · have hi2' : (i : Int) < 40 := by omega
      have w1 : IntKind.i64.wrap ((i : Int) + 1) = (i : Int) + 1 := wrap64 (by omega) (by omega)
      obtain ⟨a, ha⟩ : ∃ a, acts[i]? = some a := ⟨_, List.getElem?_eq_getElem hi⟩
      have ha2 := (List.getElem?_eq_some_iff.1 ha).2
      obtain ⟨c, outs, cok, ce⟩ := command_ok a ((i : Int) + 1) h
      simp only [Act.cells] at ce
      simp [g1, g8, hi, hi2, hi2', ha2, Act.pd, w1]
      refine PutA_eq ce ?_
      simp [ones, Cmd.cells, lim, g6, g8, w1]
      have ko : c.kind = 1 → OutsOK outs := fun k => cok.outs.elim (fun q => q.2) fun q => absurd k q.1
      obtain ⟨X, eX⟩ : ∃ X, X = ((h.new (.cells ⟨0, 14, true, 0, [[eI 0, eI 0, eI 0, eI 0, eI 0, eI 0, eI 0, eI 0, eI 0, eI 0, eI 0, .full [], eI 0, eB false]]⟩)).setArr h.objs.length ⟨0, 14, true, 0, [c.cells]⟩) := ⟨_, rfl⟩
      have x9 : X.arr h.objs.length 0 = some ⟨0, 14, true, 0, [c.cells]⟩ := by rw [eX]; simp [Hp.arr_set]
      have FX : Fwd [] h X := by rw [eX]; repeat first | exact Fwd.refl _ _ | refine Fwd.set ?_ _ (.inr (by simp)) | refine Fwd.new ?_ _
      have nX : X.objs.length = h.objs.length + 1 := by rw [eX]; simp
      have lX : X.lim = 0 := FX.lim.trans lim
      simp only [Cmd.cells] at eX
      rw [← eX]
      clear eX
      have lt1 := D1.lt
      have lt2 := D2.lt
      have fs1 : ∀ y ∈ ls, y.1 ≠ (i : Int) + 1 := fun y hy e => by have := L1.keys.lt y hy; omega
      have dn := does_ok (s := (i : Int) + 1) (outs := outs) (c := c) (D1.fwd FX (by simp)) (by omega) L1.fit fs1 hcf.2.1 ko
      simp only [Cmd.cells] at dn
      refine PutA_of dn ?_
      rintro v Y ⟨⟨err, n, m, r, fm, fr, ps1', ls', ms, R, rfl, Do1, D1', O1, O1r, n2, n3, n4⟩, FY⟩
      have limY : Y.lim = 0 := FY.lim.trans lX
      have ov := O1.one
      have nY := FY.len
      have b9 := FY.arr x9 (fun q => by have := lt1 _ q; omega)
      have hne9 : ¬ h.objs.length = Y.objs.length := by omega
      have lb9 := arr_lt b9
      simp only [Cmd.cells] at b9
      simp [ones, ov.2, limY, g7, w1, hne9, b9, nl lb9]
      obtain ⟨Y2, eY⟩ : ∃ Y2, Y2 = (Y.new (.cells ⟨0, 3, true, 0, [[eI 0, eI 0, .full []]]⟩)).setArr Y.objs.length ⟨0, 3, true, 0, [[eI err, eI n, m]]⟩ := ⟨_, rfl⟩
      rw [← eY]
      have F2 : Fwd [] Y Y2 := by rw [eY]; repeat first | exact Fwd.refl _ _ | refine Fwd.set ?_ _ (.inr (by simp)) | refine Fwd.new ?_ _
      have y15 : Y2.arr Y.objs.length 0 = some ⟨0, 3, true, 0, [[eI err, eI n, m]]⟩ := by rw [eY]; simp [Hp.arr_set]
      have nY2 : Y2.objs.length = Y.objs.length + 1 := by rw [eY]; simp
      clear eY
      have limY2 : Y2.lim = 0 := F2.lim.trans limY
      have D2' : RefAt Y2 rid cf ls qf rs := ((D2.fwd FX (by simp)).fwd FY away).fwd F2 (by simp)
      have few : ls.length ≤ 4 := by have := L1.few; omega
      have dn2 := rdo_ok (s := (i : Int) + 1) (outs := outs) (c := c) D2' (by omega) L1.fit hcf.2.1 (by omega) ko
      simp only [Cmd.cells] at dn2
      refine PutA_of dn2 ?_
      rintro v2 Z ⟨⟨err2, n', m2, r2, fm2, fr2, qf', rs', ls2, ms2, R2, rfl, Do2, D2'', O2, O2r, p2, p3, p4⟩, FZ⟩
      obtain ⟨rfl, rfl, rfl, rfl, hrefs, hR1, hR2⟩ := alike Do1 Do2 L1 ko hcf.2.2 hcf.1 hcf.2.1
      have ov2 := O2.one
      have or2 := O2r.one
      have limZ : Z.lim = 0 := FZ.lim.trans limY2
      have nZ := FZ.len
      have c15 := FZ.arr y15 (fun q => by have := lt2 _ q; omega)
      have hne15 : ¬ Y.objs.length = Z.objs.length := by omega
      simp [ones, ov2.2, or2.2, limZ, c15, hne15]
      obtain ⟨Z2, eZ⟩ : ∃ Z2, Z2 = (Z.new (.cells ⟨0, 4, true, 0, [[eI 0, eI 0, .full [], .full []]]⟩)).setArr Z.objs.length ⟨0, 4, true, 0, [[eI err, eI n, m2, r2]]⟩ := ⟨_, rfl⟩
      rw [← eZ]
      have FZ2 : Fwd [] Z Z2 := by rw [eZ]; repeat first | exact Fwd.refl _ _ | refine Fwd.set ?_ _ (.inr (by simp)) | refine Fwd.new ?_ _
      have z13 : Z2.arr Z.objs.length 0 = some ⟨0, 4, true, 0, [[eI err, eI n, m2, r2]]⟩ := by rw [eZ]; simp [Hp.arr_set]
      clear eZ
      have lz13 := arr_lt z13
      have limZ2 : Z2.lim = 0 := FZ2.lim.trans limZ
      have OA := ((O1.fwd F2 (by simp)).fwd FZ (fun y hy q => by have := lt2 _ q; have := n3 y hy; omega)).fwd FZ2 (by simp)
      have OAr := ((O1r.fwd F2 (by simp)).fwd FZ (fun y hy q => by
        rcases n4 y hy with z | z
        · exact away y z q
        · have := lt2 _ q; omega)).fwd FZ2 (by simp)
      have OB := O2.fwd FZ2 (by simp)
      have OBr := O2r.fwd FZ2 (by simp)
      obtain ⟨s1, s2⟩ := does_fits Do1 L1.fit ⟨hcf.1, hcf.2.1⟩
      obtain ⟨A, q1, q2⟩ := sets_read ms s1
      have RA := reads3_of q1 q2 s2 OA
      have RB := reads3_of q1 q2 s2 OB
      refine PutA_eq (sameA_ok RA RB ⟨ov.2, ov.1⟩ ⟨ov2.2, ov2.1⟩) ?_
      have D1f : DeskAt Z2 id1 idm1 ps1' ⟨cf, ls'⟩ := ((D1'.fwd F2 (by simp)).fwd FZ (fun y hy q => by
        rcases n2 y q with z | z
        · exact away y z hy
        · have := lt2 _ hy; omega)).fwd FZ2 (by simp)
      have D2f : RefAt Z2 rid cf ls' qf' rs' := D2''.fwd FZ2 (by simp)
      have L1f := does_lives Do1 ko L1 hcf.1
      have few' : ls'.length ≤ 4 := by have := L1f.few; omega
      have awayf : ∀ y ∈ own id1 idm1 ps1', y ∉ rOwn rid qf' rs' := fun y hy q => by
        have := D1'.lt y hy
        rcases p2 y q with z | z
        · rcases n2 y hy with w | w
          · exact away y w z
          · have := lt2 _ z; omega
        · omega
      simp [same3_self, z13, nl lz13]
      refine PutA_eq (sameRefs_ok OAr.els OBr.els hR1 hR2) ?_
      rw [hrefs]
      simp
      refine PutA_of (held_ok D1f L1f.fit few' hcf.2.1) ?_
      rintro _ Z3 ⟨rfl, e3⟩
      rw [e3]
      simp
      refine PutA_eq (rheld_ok D2f L1f.fit few' hcf.2.1) ?_
      obtain ⟨qv, tq, qq⟩ := D2f.top
      have ltq := arr_lt tq
      have ql := qq.len Z2
      have eqv : qv.eqb qv = true := qq.eqb_
      rw [rEls_len D2f.len] at ql
      simp only [Conf.cells, List.cons_append, List.nil_append] at tq
      simp [tq, ql, nl ltq]
      refine PutC_of (K := fun w h' => w = eI ls'.length ∧ h' = Z2) ⟨_, _, live_ok D1f, rfl, rfl⟩ ?_
      rintro _ Z4 ⟨rfl, e4⟩
      rw [e4]
      simp [tq, eqv, nl ltq]
      refine both_ok D1f D2f (by omega) (by simp) (by simp) (by simp) ?_
      intro f5 e5
      have s1 := e5 1 (by simp)
      have s5 := e5 5 (by simp)
      have s6 := e5 6 (by simp)
      have s7 := e5 7 (by simp)
      have s8 := e5 8 (by simp)
      simp at s1 s5 s6 s7 s8
      simp [s8, w1]
      refine hN _ _ ps1' qf' rs' ls' ⟨by simp [s1], by simp [s5, g5], by simp [s6], by simp [s7], by simp, by omega, rfl, D1f, D2f, by simpa using L1f, awayf, limZ2⟩ (by omega)
    · have hi2' : ¬ (i : Int) < 40 := by omega
      simp [g1, g8, hi, hi2, hi2']
      exact hQ _ (by simp [g5])
  · simp [g1, g8, hi]
    exact hQ _ (by simp [g5])

theorem queueDoes_ok (q0 q1 : Int) (acts : List Act) (hl : acts.length ≤ maxLen) : C0 n_QueueDoes [.agg [eI q0, eI q1], .p (.list (acts.map Act.pd))] ⟨[], 0⟩ = some (eB true, ⟨[], 0⟩) := by
  refine call_loc noExt_mono (f := n_QueueDoes) rfl rfl rfl fun h0 e0 el => ?_
  obtain ⟨os, lim⟩ := h0
  simp at e0 el
  subst e0 el
  simp
  obtain ⟨X, eX⟩ : ∃ X : Hp, X = (⟨[], 0⟩ : Hp).new (.cells ⟨0, 2, true, 0, [[eI q0, eI q1]]⟩) := ⟨_, rfl⟩
  have aw : C0 n_qawake [] X = some (eB true, X) := by rw [eX]; exact awake_one _
  have x0 : X.arr 0 0 = some ⟨0, 2, true, 0, [[eI q0, eI q1]]⟩ := by rw [eX]; rfl
  have lX : X.lim = 0 := by rw [eX]; rfl
  have nX : X.objs.length = 1 := by rw [eX]; rfl
  rw [← eX]
  clear eX
  refine PutA_eq aw ?_
  simp [x0]
  refine PutA_eq (config_ok q0 q1 _) ?_
  obtain ⟨a1, a2⟩ := restZ_bound (x := q0) (n := 4) (by omega)
  obtain ⟨b1, b2⟩ := restZ_bound (x := q1) (n := 6) (by omega)
  have hc : 1 ≤ (confOf q0 q1).q ∧ (confOf q0 q1).q ≤ 4096 ∧ 1 ≤ (confOf q0 q1).o ∧ (confOf q0 q1).o ≤ 4096 := by simp only [confOf]; omega
  have hc4 : (confOf q0 q1).q ≤ 4 := by simp only [confOf]; omega
  simp
  refine PutA_of (new_ok (confOf q0 q1) X (by omega) hc) ?_
  rintro v Y ⟨id1, idm1, rfl, H1, m1, m2, f1⟩
  have lY : Y.lim = 0 := f1.lim.trans lX
  have y0 := f1.arr x0 (by simp)
  have ly0 := arr_lt y0
  simp [y0, nl ly0]
  refine PutA_eq (config_ok q0 q1 _) ?_
  simp [Conf.cells, ones]
  obtain ⟨Z, eZ⟩ : ∃ Z, Z = Y.new (.cells ⟨0, 8, true, 0, [(confOf q0 q1).cells ++ [.full []]]⟩) := ⟨_, rfl⟩
  have f2 : Fwd [] Y Z := by rw [eZ]; exact (Fwd.refl _ _).new _
  have z0 : Z.arr Y.objs.length 0 = some ⟨0, 8, true, 0, [(confOf q0 q1).cells ++ [.full []]]⟩ := by rw [eZ]; simp
  simp only [Conf.cells, List.cons_append, List.nil_append] at eZ
  rw [← eZ]
  clear eZ
  have lZ : Z.lim = 0 := f2.lim.trans lY
  have lv : Lives (confOf q0 q1) (((0 : Nat) : Int) + 1) [] := ⟨⟨by simp, by intro y hy; cases hy⟩, by show (0 : Int) ≤ (confOf q0 q1).q; omega, by intro y hy; cases hy⟩
  have lt1 := H1.lt
  have H2 : RefAt Z Y.objs.length (confOf q0 q1) [] [] [] := ⟨⟨.full [], z0, .nil⟩, rfl, fun i k l rv fp h => by simp at h, by simp [rOwn], by omega⟩
  have aw0 : ∀ y ∈ own id1 idm1 [], y ∉ rOwn Y.objs.length [] [] := fun y hy q => by
    have := lt1 y hy
    simp [rOwn] at q
    omega
  refine Run_loop (fun q f h => ∃ i ps1 qf rs ls, DoAt (confOf q0 q1) acts id1 idm1 Y.objs.length q f h i ps1 qf rs ls) (n := 40) ⟨0, [], [], [], [], by simp, by simp, by simp, by simp, by simp, by omega, rfl, H1.fwd f2 (by simp), H2, lv, aw0, lZ⟩ ?_
  rintro q f h ⟨i, ps1, qf, rs, ls, I⟩
  refine dos_round ⟨by omega, hc.2.2.2, hc4⟩ I (fun f' g5 => ?_) (fun f' h' ps1 qf rs ls J hq => ⟨_, hq, _, ps1, qf, rs, ls, J⟩)
  simp [g5, Ends]
theorem queueDoes_D : ∀ xss, Typed [([.int .i64, .int .i64], true), ([.slice [.int .i64, .int .i64, .int .i64, .slice [.int .i64] false, .slice [.int .i64] false, .int .i64] true], false)] xss → C0 n_QueueDoes (argsEV [([.int .i64, .int .i64], true), ([.slice [.int .i64, .int .i64, .int .i64, .slice [.int .i64] false, .slice [.int .i64] false, .int .i64] true], false)] xss) ⟨[], 0⟩ = some (eB true, ⟨[], 0⟩) := law_acts queueDoes_ok
end Dk.Q
