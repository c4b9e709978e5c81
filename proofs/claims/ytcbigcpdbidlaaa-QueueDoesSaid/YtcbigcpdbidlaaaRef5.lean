/- The reference's publish. -/
import Derived.Test.YtcbigcpdbidlaaaRef4
set_option linter.unusedVariables false
set_option linter.unusedSimpArgs false
set_option linter.unusedSectionVars false
namespace Dk.Q
open Go Dk

def pBody : DC := .seq (.ops [S 27 (.mv (.t 0)),
      S 28 (.mv (.t 10)),
      S 29 (.mv (.t 11)),
      S 30 (.ixa 3 (.t 28) (.t 29)),
      S 31 (.fld 0 (.t 30)),
      S 32 (.ld false 1 (.t 31)),
      S 33 (.call n_qfind [(.t 27), (.t 32)]),
      S 12 (.mv (.t 33))])
    (.seq (.ops [S 34 (.mv (.t 12)),
      S 35 (.bin .lss .none (.t 34) (xI 0)),
      S 36 (.mv (.t 35)),
      ⟨(some 37), .mv (.t 0), (some (36, false)), []⟩,
      ⟨(some 38), .nz (.t 37), (some (36, false)), []⟩,
      ⟨(some 39), .fld 7 (.t 38), (some (36, false)), []⟩,
      ⟨(some 40), .ld false 1 (.t 39), (some (36, false)), []⟩,
      ⟨(some 41), .mv (.t 12), (some (36, false)), []⟩,
      ⟨(some 42), .ixa 3 (.t 40) (.t 41), (some (36, false)), []⟩,
      ⟨(some 43), .fld 2 (.t 42), (some (36, false)), []⟩,
      ⟨(some 44), .ld false 1 (.t 43), (some (36, false)), []⟩,
      S 45 (.pick (.t 36) (xB true) (.t 44))])
    (.cond (.t 45)
     (.ops [S 46 (.fld 3 (.t 9)),
       S 47 (.ld false 1 (.t 46)),
       S 48 (.mv (.t 10)),
       S 49 (.mv (.t 11)),
       S 50 (.ixa 3 (.t 48) (.t 49)),
       S 51 (.fld 1 (.t 50)),
       S 52 (.fld 1 (.t 51)),
       S 53 (.ld false 1 (.t 52)),
       S 54 (.app 2 true 16 (.t 47) (.t 53)),
       S 55 (.fld 3 (.t 9)),
       E (.st 1 (.t 55) (.t 54))])
     (.seq (.ops [S 56 (.mv (.t 0)),
       S 57 (.nz (.t 56)),
       S 58 (.fld 7 (.t 57)),
       S 59 (.ld false 1 (.t 58)),
       S 60 (.mv (.t 12)),
       S 61 (.ixa 3 (.t 59) (.t 60)),
       S 62 (.fld 1 (.t 61)),
       S 63 (.ld false 1 (.t 62)),
       S 64 (.len 0 (.t 63)),
       S 65 (.mv (.t 0)),
       S 66 (.nz (.t 65)),
       S 67 (.fld 0 (.t 66)),
       S 68 (.fld 5 (.t 67)),
       S 69 (.ld false 1 (.t 68)),
       S 70 (.bin .geq .none (.t 64) (.t 69))])
     (.cond (.t 70)
      (.seq (.ops [S 71 (.mv (.t 0)),
        S 72 (.nz (.t 71)),
        S 73 (.fld 7 (.t 72)),
        S 74 (.ld false 1 (.t 73)),
        S 75 (.mv (.t 12)),
        S 76 (.ixa 3 (.t 74) (.t 75)),
        S 77 (.fld 2 (.t 76)),
        E (.st 1 (.t 77) (xB true))])
      (.ops [S 78 (.fld 3 (.t 9)),
        S 79 (.ld false 1 (.t 78)),
        S 80 (.mv (.t 10)),
        S 81 (.mv (.t 11)),
        S 82 (.ixa 3 (.t 80) (.t 81)),
        S 83 (.fld 1 (.t 82)),
        S 84 (.fld 1 (.t 83)),
        S 85 (.ld false 1 (.t 84)),
        S 86 (.app 2 true 16 (.t 79) (.t 85)),
        S 87 (.fld 3 (.t 9)),
        E (.st 1 (.t 87) (.t 86))]))
      (.ops [S 88 (.mv (.t 0)),
        S 89 (.nz (.t 88)),
        S 90 (.fld 7 (.t 89)),
        S 91 (.ld false 1 (.t 90)),
        S 92 (.mv (.t 12)),
        S 93 (.mv (.t 0)),
        S 94 (.nz (.t 93)),
        S 95 (.fld 7 (.t 94)),
        S 96 (.ld false 1 (.t 95)),
        S 97 (.mv (.t 12)),
        S 98 (.ixa 3 (.t 96) (.t 97)),
        S 99 (.fld 1 (.t 98)),
        S 100 (.ld false 1 (.t 99)),
        S 101 (.mv (.t 10)),
        S 102 (.mv (.t 11)),
        S 103 (.ixa 3 (.t 101) (.t 102)),
        S 104 (.fld 1 (.t 103)),
        S 105 (.ld true 2 (.t 104)),
        S 106 (.lit 2 true [[(.full []), (.full [])]] [(0, (.t 105))]),
        ⟨(some 107), .app 2 true 48 (.t 100) (.t 106), none, [(91, .ld false 1 (.t 90), none)]⟩,
        S 108 (.ixa 3 (.t 91) (.t 92)),
        S 109 (.fld 1 (.t 108)),
        E (.st 1 (.t 109) (.t 107))])))))
def pHits : DC := .seq (.seq (.ops [S 21 (.mv (.t 11)),
     S 22 (.mv (.t 10)),
     S 23 (.len 0 (.t 22)),
     S 24 (.bin .lss .none (.t 21) (.t 23))])
   (.cond (.t 24)
    (.skip)
    (.exit 0)))
   (.seq (.block 1 pBody)
   (.ops [S 25 (.mv (.t 11)),
     S 26 (.bin .add .none (.t 25) (xI 1)),
     S 11 (.mv (.t 26))]))
def pMark : DC := .seq (.seq (.ops [S 116 (.mv (.t 14)),
        S 117 (.mv (.t 3)),
        S 118 (.mv (.t 13)),
        S 119 (.ixa 4 (.t 117) (.t 118)),
        S 120 (.fld 1 (.t 119)),
        S 121 (.ld false 1 (.t 120)),
        S 122 (.len 0 (.t 121)),
        S 123 (.bin .lss .none (.t 116) (.t 122))])
      (.cond (.t 123)
       (.skip)
       (.exit 4)))
      (.seq (.block 5 (.seq (.ops [S 126 (.mv (.t 0)),
         S 127 (.mv (.t 3)),
         S 128 (.mv (.t 13)),
         S 129 (.ixa 4 (.t 127) (.t 128)),
         S 130 (.fld 1 (.t 129)),
         S 131 (.ld false 1 (.t 130)),
         S 132 (.mv (.t 14)),
         S 133 (.ixa 1 (.t 131) (.t 132)),
         S 134 (.ld false 1 (.t 133)),
         S 135 (.call n_qfind [(.t 126), (.t 134)]),
         S 15 (.mv (.t 135))])
       (.seq (.ops [S 136 (.mv (.t 15)),
         S 137 (.bin .geq .none (.t 136) (xI 0))])
       (.cond (.t 137)
        (.ops [S 138 (.mv (.t 0)),
          S 139 (.nz (.t 138)),
          S 140 (.fld 7 (.t 139)),
          S 141 (.ld false 1 (.t 140)),
          S 142 (.mv (.t 15)),
          S 143 (.ixa 3 (.t 141) (.t 142)),
          S 144 (.fld 2 (.t 143)),
          E (.st 1 (.t 144) (xB true))])
        (.skip)))))
      (.ops [S 124 (.mv (.t 14)),
        S 125 (.bin .add .none (.t 124) (xI 1)),
        S 14 (.mv (.t 125))]))
def pMarks : DC := .seq (.seq (.ops [S 110 (.mv (.t 13)),
     S 111 (.mv (.t 3)),
     S 112 (.len 0 (.t 111)),
     S 113 (.bin .lss .none (.t 110) (.t 112))])
   (.cond (.t 113)
    (.skip)
    (.exit 2)))
   (.seq (.block 3 (.seq (.ops [S 14 (.mv (xI 0))])
    (.block 4 (.loop [0, 3, 6, 8, 9, 13, 14] pMark))))
   (.ops [S 114 (.mv (.t 13)),
     S 115 (.bin .add .none (.t 114) (xI 1)),
     S 13 (.mv (.t 115))]))
theorem QOwn.eqb_ {h : Hp} {v : EV} {els : List (List EV)} {fp : List Nat} (H : QOwn h v els fp) : v.eqb v = true := by
  cases H <;> simp [EV.eqb]
/-- What is told so far: in a box, its refs in a row of their own. -/
structure ToldAt (h : Hp) (tb : Nat) (s : Int) (R : List (Int × Int)) (tf : List Nat) : Prop where
  is : ∃ tv, h.arr tb 0 = some ⟨0, 4, true, 0, [[eI 0, eI s, .full [], tv]]⟩ ∧ Own h 2 true tv (refCells R) tf
  lim : h.lim ≤ tb
  no : tb ∉ tf
theorem ToldAt.fwd {h h' : Hp} {tb : Nat} {s : Int} {R : List (Int × Int)} {tf ids : List Nat} (H : ToldAt h tb s R tf) (f : Fwd ids h h') (hi : ∀ y ∈ ids, y ∉ tb :: tf) : ToldAt h' tb s R tf := by
  obtain ⟨⟨tv, a, o⟩, l, n⟩ := H
  exact ⟨⟨tv, f.arr a fun q => hi _ q (by simp), o.fwd f fun y hy q => hi _ q (by simp [hy])⟩, by rw [f.lim]; exact l, n⟩
theorem ToldAt.lt {h : Hp} {tb : Nat} {s : Int} {R : List (Int × Int)} {tf : List Nat} (H : ToldAt h tb s R tf) : ∀ y ∈ tb :: tf, y < h.objs.length := by
  obtain ⟨⟨tv, a, o⟩, l, n⟩ := H
  intro y hy
  rcases List.mem_cons.1 hy with rfl | hy
  · exact arr_lt a
  · exact o.lt y hy

/-- More refs are told: as the code has it, behind the refs' load. -/
theorem told_add {h : Hp} {tb : Nat} {s : Int} {R : List (Int × Int)} {tf : List Nat} (H : ToldAt h tb s R tf) (hl : h.lim ≤ h.objs.length) (refs : List (Int × Int)) (hb : R.length + refs.length < 1000000) :
    ∃ tv, h.arr tb 0 = some ⟨0, 4, true, 0, [[eI 0, eI s, .full [], tv]]⟩ ∧ WA (appendTo 2 true 16 tv (.p (.list (refs.map rPD))) h) fun v' h1 => EV.one v' = true ∧ v'.cells = [v'] ∧ h1.arr tb 0 = some ⟨0, 4, true, 0, [[eI 0, eI s, .full [], tv]]⟩ ∧ h1.lim ≤ tb ∧ ∃ tf', ToldAt (h1.setArr tb ⟨0, 4, true, 0, [[eI 0, eI s, .full [], v']]⟩) tb s (R ++ refs) tf' ∧ Fwd (tb :: tf) h (h1.setArr tb ⟨0, 4, true, 0, [[eI 0, eI s, .full [], v']]⟩) ∧ Grown tf h tf' := by
  obtain ⟨⟨tv, a, o⟩, l, n⟩ := H
  refine ⟨tv, a, WA.mono (o.append (x := .p (.list (refs.map rPD))) (ys := refCells refs) (refs_els _ _) (by simp [refCells]; omega) hl) ?_⟩
  rintro v' h1 ⟨tf', o', f, g⟩
  have a1 := f.arr a n
  have l1 : h1.lim ≤ tb := by rw [f.lim]; exact l
  have la := arr_lt a1
  have F : Fwd [tb] h1 (h1.setArr tb ⟨0, 4, true, 0, [[eI 0, eI s, .full [], v']]⟩) := (Fwd.refl _ _).set _ (by simp)
  have n' : tb ∉ tf' := fun q => by
    rcases g tb q with z | z
    · exact n z
    · have := arr_lt a; omega
  refine ⟨o'.one.2, o'.one.1, a1, l1, tf', ⟨⟨v', by simp [Hp.arr_set, la], ?_⟩, by rw [F.lim]; exact l1, n'⟩, (f.mono (by simp +contextual)).trans (F.mono (by simp)), g⟩
  have er : refCells (R ++ refs) = refCells R ++ refCells refs := by simp [refCells]
  rw [er]
  exact o'.fwd F fun y hy q => by simp at q; subst q; exact n' hy

/-- One hit, in the reference's publish. -/
theorem rp_body {h : Hp} {rid tb i : Nat} {cf : Conf} {ls : List (Int × Line)} {qf tf : List Nat} {rs : List (EV × List Nat)} {s : Int} {R : List (Int × Int)} {xs : List Hit} {x : Hit} {f : Fr} {Q : Ex → Fr → Hp → Prop} {ks : List Ct}
    (H : RefAt h rid cf ls qf rs) (T : ToldAt h tb s R tf) (hl : h.lim ≤ h.objs.length) (g0 : f.get 0 = .ptr rid 0 0 0) (g9 : f.get 9 = .ptr tb 0 0 0) (g10 : f.get 10 = .p (rowPD xs)) (g11 : f.get 11 = eI i) (hx : xs[i]? = some x) (hfx : FndOK x.f) (F : Fit cf ls) (ho : cf.o ≤ 4096) (hb : R.length < 10000) (hbl : ls.length < 1000000)
    (n1 : ∀ y ∈ tb :: tf, y ∉ rOwn rid qf rs)
    (hQ : ∀ f' h' ls' rs' R' tf', (∀ t ∈ [0, 3, 6, 8, 9, 10, 11], f'.get t = f.get t) → RefAt h' rid cf ls' qf rs' → ToldAt h' tb s (R ++ R') tf' → HitDoes cf.o x ls ls' R' → Fwd (rOwn rid qf rs ++ tb :: tf) h h' → (∀ y ∈ rOwn rid qf rs', y ∈ rOwn rid qf rs ∨ h.objs.length ≤ y) → Grown tf h tf' → (∀ y ∈ tb :: tf', y ∉ rOwn rid qf rs') → Run C0 ks .normal f' h' Q) :
    Run C0 (.code pBody :: ks) .normal f h Q := by
  have hxl := (List.getElem?_eq_some_iff.1 hx).1
  have hx2 := (List.getElem?_eq_some_iff.1 hx).2
  have lt := H.lt
  have ltT := T.lt
  have hrefs := hfx.refs
  obtain ⟨tv, ta, hadd⟩ := told_add T hl x.f.refs (by omega)
  have hgrow : ∀ {tf'}, Grown tf h tf' → ∀ y ∈ tb :: tf', y ∉ rOwn rid qf rs := fun {tf'} g y hy => by
    rcases List.mem_cons.1 hy with rfl | hy
    · exact n1 _ (by simp)
    · rcases g y hy with z | z
      · exact n1 y (by simp [z])
      · intro q; have := lt y q; omega
  simp only [pBody]
  simp [g0, g10, g11, hxl, hx2, rowPD, Hit.pd]
  refine PutA_eq (find_ok H hbl x.id rfl) ?_
  rcases find_cases x.id ls with ⟨e, hno⟩ | ⟨a, l, b, rfl, hfr, e⟩
  · simp [e, g9, g10, g11, hxl, hx2, rowPD, Hit.pd, ta]
    refine PutA_of hadd ?_
    rintro v' h1 ⟨o1, o2, a1, l1, tf', T', F', G'⟩
    have lt1 := arr_lt a1
    simp [g9, a1, ones, o1, o2, l1, nl lt1]
    refine hQ _ _ ls rs x.f.refs tf' (by simp) (H.fwd F' n1) T' (.none hno) (F'.mono fun y hy => List.mem_append_right _ hy) (fun y hy => .inl hy) G' (hgrow G')
  · obtain ⟨ra, rv, fp, rb, rfl, hla, O, qv, t, q, qid, g, all, p1, p2, p3, p4, p5, p6, p7⟩ := H.line
    have hn0 : ¬ ((a.length : Int) < 0) := by omega
    have rl := own_lens O
    have hF := F (x.id, l) (by simp)
    have hF1 := hF.1
    simp only at hF1
    simp only [Conf.cells, List.cons_append, List.nil_append] at t
    cases hlo : l.lost with
    | true =>
      simp [e, hn0, g0, t, p1, p2, p4, p5, hlo, g9, g10, g11, hxl, hx2, rowPD, Hit.pd, ta]
      refine PutA_of hadd ?_
      rintro v' h1 ⟨o1, o2, a1, l1, tf', T', F', G'⟩
      have lt1 := arr_lt a1
      simp [g9, a1, ones, o1, o2, l1, nl lt1]
      exact hQ _ _ (a ++ (x.id, l) :: b) (ra ++ (rv, fp) :: rb) x.f.refs tf' (by simp) (H.fwd F' n1) T' (.lost hfr hlo) (F'.mono fun y hy => List.mem_append_right _ hy) (fun y hy => .inl hy) G' (hgrow G')
    | false =>
      simp [e, hn0, g0, t, p1, p2, p4, p5, hlo, rl]
      have t' : h.arr rid 0 = some ⟨0, 8, true, 0, [cf.cells ++ [qv]]⟩ := by simpa [Conf.cells] using t
      have lq := arr_lt p2
      have qin : qid ∈ rOwn rid qf (ra ++ (rv, fp) :: rb) := by rw [p6]; simp [rOwn]
      have hne : tb ≠ qid := fun e => n1 tb (by simp) (by rw [e]; exact qin)
      have hsub : ∀ y ∈ qf ++ fp, y ∈ rOwn rid qf (ra ++ (rv, fp) :: rb) := fun y hy => by
        rw [rOwn_split]
        rcases List.mem_append.1 hy with z | z
        · simp [z]
        · simp [z]
      by_cases hfull : cf.o ≤ (l.row.length : Int)
      · obtain ⟨P1, P2⟩ := H.put (l' := ⟨l.row, true⟩) hla (Fwd.refl fp h) O (fun y hy => .inl hy) t' p1 p2 p6
        obtain ⟨X, eX⟩ : ∃ X, X = h.setArr qid ⟨g, 3, true, 0, all.set a.length [eI x.id, rv, eB true]⟩ := ⟨_, rfl⟩
        rw [← eX] at P1 P2
        have T1 := T.fwd P2 fun y hy q => n1 y q (hsub y hy)
        obtain ⟨tv1, ta1, hadd1⟩ := told_add T1 (P2.limlen hl) x.f.refs (by omega)
        have ltX := P1.lt
        have etv : tv1 = tv := by
          have q1 := P2.arr ta (fun q => n1 tb (by simp) (hsub tb q))
          rw [ta1] at q1
          simpa using q1
        subst etv
        have ovr := O.one
        simp [hfull, g0, g9, g10, g11, t, p1, p2, p4, p5, p7, ones, nl lq, hxl, hx2, rowPD, Hit.pd, hne, ta]
        rw [← eX]
        refine PutA_of hadd1 ?_
        rintro v' h1 ⟨o1, o2, a1, l1, tf', T', F', G'⟩
        have lt1 := arr_lt a1
        simp [g9, a1, ones, o1, o2, l1, nl lt1]
        have nP : ∀ y ∈ rOwn rid qf (ra ++ (rv, fp) :: rb), y ∉ tb :: tf := fun y hy q => n1 y q hy
        refine hQ _ _ (a ++ (x.id, ⟨l.row, true⟩) :: b) (ra ++ (rv, fp) :: rb) x.f.refs tf' (by simp) (P1.fwd F' fun y hy => n1 y hy) T' (.full hfr hlo hfull) ((P2.mono fun y hy => List.mem_append_left _ (hsub y hy)).trans (F'.mono fun y hy => List.mem_append_right _ hy)) (fun y hy => .inl hy) (fun y hy => ?_) (fun y hy => ?_)
        · rcases G' y hy with z | z
          · exact .inl z
          · have := P2.len; exact .inr (by omega)
        · rcases List.mem_cons.1 hy with rfl | hy
          · exact n1 _ (by simp)
          · rcases G' y hy with z | z
            · exact n1 y (by simp [z])
            · intro q; have := ltX y q; omega
      · simp [hfull, g0, g9, g10, g11, t, p1, p2, p4, p5, p7, ones, nl lq, hxl, hx2, rowPD, Hit.pd]
        have F0 : Fwd [] h (h.new (.cells ⟨0, 2, true, 0, [[.p (.list x.f.sets), .p (.list (x.f.refs.map rPD))]]⟩)) := (Fwd.refl _ _).new _
        refine PutC_of ((O.fwd F0 (by simp)).append (x := .arr h.objs.length 0 2 0 1 true) (ys := [x.f.cells]) (by simp [elsOf, Fnd.cells]) (by simp; omega) (by simp; omega)) ?_
        rintro v' h1 ⟨fp', O', F1, G1⟩
        have F01 : Fwd fp h h1 := (F0.mono (by simp)).trans F1
        have hg : Grown fp h fp' := fun y hy => by
          rcases G1 y hy with z | z
          · exact .inl z
          · simp at z; exact .inr (by omega)
        have er : (l.row ++ [x.f]).map Fnd.cells = l.row.map Fnd.cells ++ [x.f.cells] := by simp
        obtain ⟨P1, P2⟩ := H.put (l' := ⟨l.row ++ [x.f], false⟩) hla F01 (by rw [er]; exact O') hg t' p1 p2 p6
        have d := H.dis
        rw [rOwn_split] at d
        have ridfp : rid ∉ fp := fun q => (List.nodup_append.1 d).2.2 rid (by simp) rid (by simp [q]) rfl
        have idfp : qid ∉ fp := fun q => (List.nodup_append.1 d).2.2 qid (by rw [p6]; simp) qid (by simp [q]) rfl
        have t1 := F01.arr t ridfp
        have q1 := F01.arr p2 idfp
        have lq1 := arr_lt q1
        have ov := O'.one
        have lim1 : h1.lim ≤ qid := by rw [F01.lim]; exact p7
        have eqv : qv.eqb qv = true := q.eqb_
        simp [t1, p1, q1, p4, p5, ov.1, ov.2, ones, lim1, nl lq1, eqv]
        rw [hlo]
        have T1 := T.fwd P2 fun y hy q => n1 y q (hsub y hy)
        have own' : ∀ y ∈ rOwn rid qf (ra ++ (v', fp') :: rb), y ∈ rOwn rid qf (ra ++ (rv, fp) :: rb) ∨ h.objs.length ≤ y := fun y hy => by
          rw [rOwn_split] at hy ⊢
          rcases List.mem_append.1 hy with z | z
          · exact .inl (List.mem_append_left _ z)
          · rcases List.mem_append.1 z with z | z
            · rcases hg y z with w | w
              · exact .inl (List.mem_append_right _ (List.mem_append_left _ w))
              · exact .inr w
            · exact .inl (List.mem_append_right _ (List.mem_append_right _ z))
        refine hQ _ _ (a ++ (x.id, ⟨l.row ++ [x.f], false⟩) :: b) (ra ++ (v', fp') :: rb) [] tf ?_ P1 (by simpa using T1) (.kept hfr hlo (by omega)) (P2.mono fun y hy => List.mem_append_left _ (hsub y hy)) own' (fun y hy => .inl hy) (fun y hy q => ?_)
        · simp [g0, g9, g10, g11]
        · rcases own' y q with z | z
          · exact n1 y hy z
          · have := ltT y hy; omega
structure RPAt (cf : Conf) (ls0 : List (Int × Line)) (rid tb : Nat) (xs : List Hit) (s : Int) (o0 : List Nat) (tf0 : List Nat) (f0 : Fr) (h0 : Hp) (q : Nat) (f : Fr) (h : Hp) (i : Nat) (ls : List (Int × Line)) (qf : List Nat) (rs : List (EV × List Nat)) (R : List (Int × Int)) (tf : List Nat) : Prop where
  e : ∀ t ∈ [0, 3, 6, 8, 9, 10], f.get t = f0.get t
  g11 : f.get 11 = eI i
  le : i ≤ xs.length
  q : q = xs.length - i
  ref : RefAt h rid cf ls qf rs
  told : ToldAt h tb s R tf
  hits : HitsDo cf.o (xs.take i) ls0 ls R
  big : R.length ≤ i * 2
  fit : Fit cf ls
  n1 : ∀ y ∈ tb :: tf, y ∉ rOwn rid qf rs
  n2 : ∀ y ∈ rOwn rid qf rs, y ∈ o0 ∨ h0.objs.length ≤ y
  n3 : Grown tf0 h0 tf
  fw : Fwd (o0 ++ tb :: tf0) h0 h
theorem hitDoes_len {o : Int} {x : Hit} {ls ls' : List (Int × Line)} {r : List (Int × Int)} (h : HitDoes o x ls ls' r) : r.length ≤ x.f.refs.length := by
  cases h <;> simp
theorem rp_hits {h : Hp} {rid tb : Nat} {cf : Conf} {ls : List (Int × Line)} {qf tf : List Nat} {rs : List (EV × List Nat)} {s : Int} {xs : List Hit} {f : Fr} {Q : Ex → Fr → Hp → Prop} {ks : List Ct}
    (H : RefAt h rid cf ls qf rs) (T : ToldAt h tb s [] tf) (hl : h.lim ≤ h.objs.length) (g0 : f.get 0 = .ptr rid 0 0 0) (g9 : f.get 9 = .ptr tb 0 0 0) (g10 : f.get 10 = .p (rowPD xs)) (g11 : f.get 11 = eI 0) (hfx : ∀ x ∈ xs, FndOK x.f) (F : Fit cf ls) (ho : cf.o ≤ 4096) (hb : xs.length ≤ 100) (hbl : ls.length < 1000000)
    (n1 : ∀ y ∈ tb :: tf, y ∉ rOwn rid qf rs)
    (hQ : ∀ f' h' ls' qf' rs' R tf', (∀ t ∈ [0, 3, 6, 8, 9, 10], f'.get t = f.get t) → RefAt h' rid cf ls' qf' rs' → ToldAt h' tb s R tf' → HitsDo cf.o xs ls ls' R → R.length ≤ xs.length * 2 → Fit cf ls' → Fwd (rOwn rid qf rs ++ tb :: tf) h h' → (∀ y ∈ rOwn rid qf' rs', y ∈ rOwn rid qf rs ∨ h.objs.length ≤ y) → Grown tf h tf' → (∀ y ∈ tb :: tf', y ∉ rOwn rid qf' rs') → Run C0 ks .normal f' h' Q) :
    Run C0 (.code (.loop [0, 3, 6, 8, 9, 10, 11] pHits) :: .block 0 :: ks) .normal f h Q := by
  refine Run_loop (fun q f' h' => ∃ i ls' qf' rs' R tf', RPAt cf ls rid tb xs s (rOwn rid qf rs) tf f h q f' h' i ls' qf' rs' R tf') (n := xs.length) ⟨0, ls, qf, rs, [], tf, fun t _ => rfl, g11, by omega, rfl, H, T, by simpa using HitsDo.nil, by simp, F, n1, fun y hy => .inl hy, fun y hy => .inl hy, Fwd.refl _ _⟩ ?_
  rintro q f2 h2 ⟨i, ls2, qf2, rs2, R2, tf2, Ie, I11, Ile, Iq, IR, IT, IH, Ib, IF, In1, In2, In3, If⟩
  have e0 := (Ie 0 (by simp)).trans g0
  have e3 := Ie 3 (by simp)
  have e6 := Ie 6 (by simp)
  have e8 := Ie 8 (by simp)
  have e9 := (Ie 9 (by simp)).trans g9
  have e10 := (Ie 10 (by simp)).trans g10
  have lens : ls2.length = ls.length := by simpa using congrArg List.length (hitsDo_look IH).1
  simp only [pHits]
  by_cases hi : i < xs.length
  · obtain ⟨x, hx⟩ : ∃ x, xs[i]? = some x := ⟨_, List.getElem?_eq_getElem hi⟩
    have w1 : IntKind.i64.wrap ((i : Int) + 1) = (i : Int) + 1 := wrap64 (by omega) (by omega)
    have tk : xs.take (i + 1) = xs.take i ++ [x] := by rw [List.take_add_one, hx]; rfl
    have ox := hfx x (List.mem_of_getElem? hx)
    simp [I11, e10, rowPD, hi]
    refine rp_body (x := x) (xs := xs) (i := i) IR IT (If.limlen hl) (by simp [e0]) (by simp [e9]) (by simp [rowPD]) (by simp) hx ox IF ho (by omega) (by omega) In1 ?_
    intro f3 h3 ls3 rs3 R3 tf3 e3' R3' T3 D3 F3 m1 m2 m3
    have s11 := e3' 11 (by simp)
    simp at s11
    have hl3 := hitDoes_len D3
    have hx2 := ox.refs
    simp [s11, w1]
    refine ⟨xs.length - (i + 1), by omega, i + 1, ls3, qf2, rs3, R2 ++ R3, tf3, ?_, by simp, by omega, rfl, R3', T3, by rw [tk]; exact .snoc IH D3, by simp; omega, fit_hit D3 IF ox, m3, fun y hy => ?_, fun y hy => ?_, ?_⟩
    · intro t ht
      simp at ht
      rcases ht with rfl | rfl | rfl | rfl | rfl | rfl <;> simp [e3', e0, e3, e6, e8, e9, e10, g0, g9, g10, rowPD]
    · rcases m1 y hy with z | z
      · exact In2 y z
      · have := If.len; exact .inr (by omega)
    · rcases m2 y hy with z | z
      · exact In3 y z
      · have := If.len; exact .inr (by omega)
    · refine If.trans' F3 fun y hy => ?_
      rcases List.mem_append.1 hy with z | z
      · rcases In2 y z with w | w
        · exact .inl (List.mem_append_left _ w)
        · exact .inr w
      · rcases List.mem_cons.1 z with rfl | z
        · exact .inl (List.mem_append_right _ (by simp))
        · rcases In3 y z with w | w
          · exact .inl (List.mem_append_right _ (by simp [w]))
          · exact .inr w
  · obtain rfl : i = xs.length := by omega
    rw [List.take_length] at IH
    simp [I11, e10, rowPD]
    refine hQ _ h2 ls2 qf2 rs2 R2 tf2 ?_ IR IT IH Ib IF If In2 In3 In1
    simp [e0, e3, e6, e8, e9, e10, g0, g9, g10, rowPD]
/-- Lost ids, marked. -/
structure RMAt (cf : Conf) (o : OutV) (ls0 : List (Int × Line)) (rid : Nat) (qf : List Nat) (rs : List (EV × List Nat)) (f0 : Fr) (h0 : Hp) (q : Nat) (f : Fr) (h : Hp) (j : Nat) (ls : List (Int × Line)) : Prop where
  e : ∀ t ∈ [0, 3, 6, 8, 9, 13], f.get t = f0.get t
  g14 : f.get 14 = eI j
  le : j ≤ o.lost.length
  q : q = o.lost.length - j
  ref : RefAt h rid cf ls qf rs
  marks : MarksDo (o.lost.take j) ls0 ls
  fw : Fwd (rOwn rid qf rs) h0 h
theorem rp_mark {outs : List OutV} {o : OutV} {k : Nat} {h : Hp} {rid : Nat} {cf : Conf} {ls : List (Int × Line)} {qf : List Nat} {rs : List (EV × List Nat)} {f : Fr} {Q : Ex → Fr → Hp → Prop} {ks : List Ct} (hko : outs[k]? = some o) (few : o.lost.length ≤ 2)
    (H : RefAt h rid cf ls qf rs) (hl : h.lim ≤ h.objs.length) (g0 : f.get 0 = .ptr rid 0 0 0) (g3 : f.get 3 = .p (.list (outs.map OutV.pd))) (g13 : f.get 13 = eI k) (g14 : f.get 14 = eI 0) (hbl : ls.length < 1000000)
    (hQ : ∀ f' h' ls', (∀ t ∈ [0, 3, 6, 8, 9, 13], f'.get t = f.get t) → RefAt h' rid cf ls' qf rs → MarksDo o.lost ls ls' → Fwd (rOwn rid qf rs) h h' → Run C0 ks .normal f' h' Q) :
    Run C0 (.code (.loop [0, 3, 6, 8, 9, 13, 14] pMark) :: .block 4 :: ks) .normal f h Q := by
  have hol := (List.getElem?_eq_some_iff.1 hko).1
  have ho2 := (List.getElem?_eq_some_iff.1 hko).2
  refine Run_loop (fun q f' h' => ∃ j ls', RMAt cf o ls rid qf rs f h q f' h' j ls') (n := o.lost.length) ⟨0, ls, fun t _ => rfl, g14, by omega, rfl, H, by simpa using MarksDo.nil, Fwd.refl _ _⟩ ?_
  rintro q f2 h2 ⟨j, ls2, Ie, I14, Ile, Iq, IR, IM, If⟩
  have e0 := (Ie 0 (by simp)).trans g0
  have e3 := (Ie 3 (by simp)).trans g3
  have e6 := Ie 6 (by simp)
  have e8 := Ie 8 (by simp)
  have e9 := Ie 9 (by simp)
  have e13 := (Ie 13 (by simp)).trans g13
  have lens : ls2.length = ls.length := by simpa using congrArg List.length (marksDo_look IM).1
  simp only [pMark]
  by_cases hj : j < o.lost.length
  · obtain ⟨x, hx⟩ : ∃ x, o.lost[j]? = some x := ⟨_, List.getElem?_eq_getElem hj⟩
    have hx2 := (List.getElem?_eq_some_iff.1 hx).2
    have w1 : IntKind.i64.wrap ((j : Int) + 1) = (j : Int) + 1 := wrap64 (by omega) (by omega)
    have tk : o.lost.take (j + 1) = o.lost.take j ++ [x] := by rw [List.take_add_one, hx]; rfl
    simp [I14, e0, e3, e13, hol, ho2, OutV.pd, hj, hx2]
    refine PutA_eq (find_ok IR (by omega) x rfl) ?_
    rcases find_cases x ls2 with ⟨e, hno⟩ | ⟨a, l, b, rfl, hfr, e⟩
    · simp [e, I14, w1]
      refine ⟨o.lost.length - (j + 1), by omega, j + 1, ls2, ?_, by simp, by omega, rfl, IR, by rw [tk]; exact .snoc IM (.none hno), If⟩
      simp [e0, e3, e6, e8, e9, e13, g0, g3, g13]
    · obtain ⟨ra, rv, fp, rb, hrs, hla, O, qv, t, q, qid, g, all, p1, p2, p3, p4, p5, p6, p7⟩ := IR.line
      subst hrs
      have hn0 : (0 : Int) ≤ (a.length : Int) := by omega
      have lq := arr_lt p2
      obtain ⟨P1, P2⟩ := IR.put (l' := ⟨l.row, true⟩) hla (Fwd.refl fp h2) O (fun y hy => .inl hy) t p1 p2 p6
      simp only [Conf.cells, List.cons_append, List.nil_append] at t
      have ovr := O.one
      simp [e, hn0, e0, t, p1, p2, p4, p5, p7, nl lq, ones, I14, w1]
      refine ⟨o.lost.length - (j + 1), by omega, j + 1, _, ?_, by simp, by omega, rfl, P1, by rw [tk]; exact .snoc IM (.mark hfr), If.trans (P2.mono fun y hy => ?_)⟩
      · simp [e0, e3, e6, e8, e9, e13, g0, g3, g13]
      · rw [rOwn_split]
        rcases List.mem_append.1 hy with z | z
        · simp [z]
        · simp [z]
  · obtain rfl : j = o.lost.length := by omega
    rw [List.take_length] at IM
    simp [I14, e3, e13, hol, ho2, OutV.pd]
    exact hQ _ h2 ls2 (by simp [e0, e3, e6, e8, e9, e13, g0, g3, g13]) IR IM If

structure RNAt (cf : Conf) (outs : List OutV) (ls0 : List (Int × Line)) (rid : Nat) (qf : List Nat) (rs : List (EV × List Nat)) (f0 : Fr) (h0 : Hp) (q : Nat) (f : Fr) (h : Hp) (k : Nat) (ls : List (Int × Line)) : Prop where
  e : ∀ t ∈ [0, 3, 6, 8, 9], f.get t = f0.get t
  g13 : f.get 13 = eI k
  le : k ≤ outs.length
  q : q = outs.length - k
  ref : RefAt h rid cf ls qf rs
  marks : MarksDo ((outs.take k).flatMap OutV.lost) ls0 ls
  fw : Fwd (rOwn rid qf rs) h0 h
theorem rp_marks {outs : List OutV} {h : Hp} {rid : Nat} {cf : Conf} {ls : List (Int × Line)} {qf : List Nat} {rs : List (EV × List Nat)} {f : Fr} {Q : Ex → Fr → Hp → Prop} {ks : List Ct} (OK : OutsOK outs)
    (H : RefAt h rid cf ls qf rs) (hl : h.lim ≤ h.objs.length) (g0 : f.get 0 = .ptr rid 0 0 0) (g3 : f.get 3 = .p (.list (outs.map OutV.pd))) (g13 : f.get 13 = eI 0) (hbl : ls.length < 1000000)
    (hQ : ∀ f' h' ls', (∀ t ∈ [0, 3, 6, 8, 9], f'.get t = f.get t) → RefAt h' rid cf ls' qf rs → MarksDo (outs.flatMap OutV.lost) ls ls' → Fwd (rOwn rid qf rs) h h' → Run C0 ks .normal f' h' Q) :
    Run C0 (.code (.loop [0, 3, 6, 8, 9, 13] pMarks) :: .block 2 :: ks) .normal f h Q := by
  refine Run_loop (fun q f' h' => ∃ k ls', RNAt cf outs ls rid qf rs f h q f' h' k ls') (n := outs.length) ⟨0, ls, fun t _ => rfl, g13, by omega, rfl, H, by simpa using MarksDo.nil, Fwd.refl _ _⟩ ?_
  rintro q f2 h2 ⟨k, ls2, Ie, I13, Ile, Iq, IR, IM, If⟩
  have e0 := (Ie 0 (by simp)).trans g0
  have e3 := (Ie 3 (by simp)).trans g3
  have e6 := Ie 6 (by simp)
  have e8 := Ie 8 (by simp)
  have e9 := Ie 9 (by simp)
  have lens : ls2.length = ls.length := by simpa using congrArg List.length (marksDo_look IM).1
  have ol := OK.len
  simp only [pMarks]
  by_cases hk : k < outs.length
  · obtain ⟨o, ho⟩ : ∃ o, outs[k]? = some o := ⟨_, List.getElem?_eq_getElem hk⟩
    have w1 : IntKind.i64.wrap ((k : Int) + 1) = (k : Int) + 1 := wrap64 (by omega) (by omega)
    have tk : (outs.take (k + 1)).flatMap OutV.lost = (outs.take k).flatMap OutV.lost ++ o.lost := by
      rw [List.take_add_one, ho]
      simp
    simp [I13, e3, hk]
    refine rp_mark (outs := outs) (o := o) (k := k) ho (OK.all o (List.mem_of_getElem? ho)).lost IR (If.limlen hl) (by simp [e0]) (by simp [e3]) (by simp) (by simp) (by omega) ?_
    intro f3 h3 ls3 e3' R3 M3 F3
    have s13 := e3' 13 (by simp)
    simp at s13
    simp [s13, w1]
    refine ⟨outs.length - (k + 1), by omega, k + 1, ls3, ?_, by simp, by omega, rfl, R3, by rw [tk]; exact IM.append M3, If.trans F3⟩
    intro t ht
    simp at ht
    rcases ht with rfl | rfl | rfl | rfl | rfl <;> simp [e3', e0, e3, e6, e8, e9, g0, g3]
  · obtain rfl : k = outs.length := by omega
    rw [List.take_length] at IM
    simp [I13, e3]
    exact hQ _ h2 ls2 (by simp [e0, e3, e6, e8, e9, g0, g3]) IR IM If
theorem ins_all {came xs : List Hit} (I : Ins came xs) : ∀ x ∈ xs, x ∈ came := fun x hx => by
  have h1 : x ∈ atK x.id xs := List.mem_filter.2 ⟨hx, by simp⟩
  rw [I.at_] at h1
  exact (List.mem_filter.1 h1).1
structure RPub (cf : Conf) (s : Int) (c : Cmd) (outs : List OutV) (rid : Nat) (qf : List Nat) (rs : List (EV × List Nat)) (ls : List (Int × Line)) (h : Hp) (v : EV) (h' : Hp) : Prop where
  is : ∃ ls1 ls' R qf' rs' rv fr xs, v = .agg [eI 0, eI s, .full [], rv] ∧ Own h' 2 true rv (refCells (R ++ [(c.slot, c.gen)])) fr ∧ RefAt h' rid cf ls' qf' rs' ∧ Ins (cameOf outs) xs ∧ HitsDo cf.o xs ls ls1 R ∧ MarksDo (outs.flatMap OutV.lost) ls1 ls' ∧
    (∀ y ∈ rOwn rid qf' rs', y ∈ rOwn rid qf rs ∨ h.objs.length ≤ y) ∧ (∀ y ∈ fr, h.objs.length ≤ y)
  fw : Fwd (rOwn rid qf rs) h h'
theorem rpublish_ok {outs : List OutV} {h : Hp} {rid : Nat} {cf : Conf} {ls : List (Int × Line)} {qf : List Nat} {rs : List (EV × List Nat)} {c : Cmd} {s : Int} (OK : OutsOK outs) (H : RefAt h rid cf ls qf rs) (hl : h.lim ≤ h.objs.length) (F : Fit cf ls) (ho : cf.o ≤ 4096) (hbl : ls.length < 1000000) :
    WA (C0 n_rpublish [.ptr rid 0 0 0, eI s, .agg c.cells, .p (.list (outs.map OutV.pd))] h) (RPub cf s c outs rid qf rs ls h) := by
  refine call_W noExt_mono (f := n_rpublish) rfl rfl ?_
  obtain ⟨xs, I, em⟩ := merged_ok OK ((((h.new (.cells ⟨0, 14, true, 0, [c.cells]⟩)).new (.cells ⟨0, 4, true, 0, [[eI 0, eI 0, .full [], .full []]]⟩)).new (.cells ⟨0, 4, true, 0, [[eI 0, eI 0, .full [], .full []]]⟩)).setArr (h.objs.length + 2) ⟨0, 4, true, 0, [[eI 0, eI s, .full [], .full []]]⟩)
  have l1 : h.lim ≤ h.objs.length + 1 := by omega
  have l2 : h.lim ≤ h.objs.length + 2 := by omega
  simp only [Cmd.cells] at em
  simp [Cmd.cells, ones, lk hl, l1, l2]
  refine PutA_eq em ?_
  obtain ⟨X, eX⟩ : ∃ X, X = ((((h.new (.cells ⟨0, 14, true, 0, [c.cells]⟩)).new (.cells ⟨0, 4, true, 0, [[eI 0, eI 0, .full [], .full []]]⟩)).new (.cells ⟨0, 4, true, 0, [[eI 0, eI 0, .full [], .full []]]⟩)).setArr (h.objs.length + 2) ⟨0, 4, true, 0, [[eI 0, eI s, .full [], .full []]]⟩) := ⟨_, rfl⟩
  have FX : Fwd [] h X := by rw [eX]; repeat first | exact Fwd.refl _ _ | refine Fwd.set ?_ _ (.inr (by omega)) | refine Fwd.new ?_ _
  have nX : X.objs.length = h.objs.length + 3 := by rw [eX]; simp
  have x0 : X.arr h.objs.length 0 = some ⟨0, 14, true, 0, [c.cells]⟩ := by rw [eX]; simp [Hp.arr_set]
  have x1 : X.arr (h.objs.length + 1) 0 = some ⟨0, 4, true, 0, [[eI 0, eI 0, .full [], .full []]]⟩ := by rw [eX]; simp [Hp.arr_set]
  have x2 : X.arr (h.objs.length + 2) 0 = some ⟨0, 4, true, 0, [[eI 0, eI s, .full [], .full []]]⟩ := by rw [eX]; simp [Hp.arr_set]
  simp only [Cmd.cells] at eX
  rw [← eX]
  clear eX
  have lt := H.lt
  have limX : X.lim = h.lim := FX.lim
  have T0 : ToldAt X (h.objs.length + 2) s [] [] := ⟨⟨.full [], x2, by simpa [refCells] using Own.nil⟩, by omega, by simp⟩
  have cl := came_len OK.all
  have xl := I.len
  have ol := OK.len
  have hfx : ∀ x ∈ xs, FndOK x.f := fun x hx => by
    obtain ⟨o, ho', hh⟩ := List.mem_flatMap.1 (ins_all I x hx)
    exact ((OK.all o ho').hits x hh).1
  simp
  refine rp_hits (xs := xs) (s := s) (tb := h.objs.length + 2) (tf := []) (H.fwd FX (by simp)) T0 (FX.limlen hl) (by simp) (by simp) (by simp) (by simp) hfx F ho (by omega) hbl (fun y hy q => ?_) ?_
  · simp at hy
    subst hy
    have := lt _ q
    omega
  intro f2 h2 ls1 qf1 rs1 R tf1 e2 R1 T1 D1 b1 F1 W1 m1 m2 m3
  have lens : ls1.length = ls.length := by simpa using congrArg List.length (hitsDo_look D1).1
  have a0 := e2 0 (by simp)
  have a3 := e2 3 (by simp)
  have a6 := e2 6 (by simp)
  have a8 := e2 8 (by simp)
  have a9 := e2 9 (by simp)
  simp at a0 a3 a6 a8 a9
  simp
  refine rp_marks OK R1 (W1.limlen (FX.limlen hl)) (by simp [a0]) (by simp [a3]) (by simp) (by omega) ?_
  intro f3 h3 ls2 e3 R3 M3 W3
  have T3 := T1.fwd W3 fun y hy q => m3 y q hy
  have b6 := e3 6 (by simp)
  have b8 := e3 8 (by simp)
  have b9 := e3 9 (by simp)
  simp [a6, a8, a9] at b6 b8 b9
  have nb : ∀ k, k < 3 → h.objs.length + k ∉ rOwn rid qf1 rs1 := fun k hk q => by
    rcases m1 _ q with z | z
    · have := lt _ z; omega
    · omega
  have nb0 : ∀ k, h.objs.length + k ∉ rOwn rid qf rs := fun k q => by have := lt _ q; omega
  have c0 := W3.arr (W1.arr x0 (fun q => by
    rcases List.mem_append.1 q with z | z
    · exact nb0 0 z
    · simp at z)) (nb 0 (by omega))
  have c1 := W3.arr (W1.arr x1 (fun q => by
    rcases List.mem_append.1 q with z | z
    · exact nb0 1 z
    · simp at z)) (nb 1 (by omega))
  obtain ⟨⟨tv, ta, to⟩, tl, tn⟩ := T3
  have lim3 : h3.lim = h.lim := W3.lim.trans (W1.lim.trans limX)
  have len3 : h.objs.length + 3 ≤ h3.objs.length := by have := W1.len; have := W3.len; omega
  have r1 := arr_lt c0
  have r2 := arr_lt c1
  have r3 := arr_lt ta
  simp only [Cmd.cells] at c0
  have hh3 : h3.lim ≤ h3.objs.length := by omega
  simp [b6, b8, b9, ta, c0, ones, nl r1, nl r2, nl r3]
  refine PutA_of ((to.fwd ((Fwd.refl [] _).new _) (by simp)).append (x := .arr h3.objs.length 0 2 0 1 true) (ys := [[eI c.slot, eI c.gen]]) (by simp [elsOf]) (by simp [refCells]; omega) (by simp; omega)) ?_
  rintro v6 h6 ⟨fr6, O6, f6, g6⟩
  have F6 : Fwd tf1 h3 h6 := ((Fwd.refl tf1 h3).new _).trans' f6 fun y hy => .inl hy
  have new1 : ∀ y ∈ tf1, h.objs.length + 3 ≤ y := fun y hy => by
    rcases m2 y hy with z | z
    · cases z
    · omega
  have new6 : ∀ y ∈ fr6, h.objs.length + 3 ≤ y := fun y hy => by
    rcases g6 y hy with z | z
    · exact new1 y z
    · simp at z; omega
  have ta6 := F6.arr ta tn
  have c16 := F6.arr c1 (fun q => by have := new1 _ q; omega)
  have r6 := arr_lt ta6
  have r7 := arr_lt c16
  have o6 := O6.one
  have lim6 : h6.lim = h.lim := F6.lim.trans lim3
  simp [b8, b9, ta6, c16, ones, o6.1, o6.2, lim6, l1, l2, nl r6, nl r7, Ends]
  rw [Hp.back_of lim6]
  obtain ⟨Z, eZ⟩ : ∃ Z, Z = (h6.setArr (h.objs.length + 2) ⟨0, 4, true, 0, [[eI 0, eI s, .full [], v6]]⟩).setArr (h.objs.length + 1) ⟨0, 4, true, 0, [[eI 0, eI s, .full [], v6]]⟩ := ⟨_, rfl⟩
  rw [← eZ]
  have FZ : Fwd [h.objs.length + 2, h.objs.length + 1] h6 Z := by rw [eZ]; exact ((Fwd.refl _ _).set _ (.inl (by simp))).set _ (.inl (by simp))
  clear eZ
  have er : refCells (R ++ [(c.slot, c.gen)]) = refCells R ++ [[eI c.slot, eI c.gen]] := by simp [refCells]
  have RZ : RefAt Z rid cf ls2 qf1 rs1 := (R3.fwd F6 fun y hy q => m3 y (by simp [hy]) q).fwd FZ fun y hy q => by
    simp at hy
    rcases hy with rfl | rfl
    · exact nb 2 (by omega) q
    · exact nb 1 (by omega) q
  refine ⟨⟨ls1, ls2, R, qf1, rs1, v6, fr6, xs, rfl, ?_, RZ, I, D1, M3, fun y hy => (m1 y hy).imp_right fun z => by omega, fun y hy => by have := new6 y hy; omega⟩, ?_⟩
  · rw [er]
    exact O6.fwd FZ fun y hy q => by
      have := new6 y hy
      simp at q
      omega
  · refine ((((FX.mono (by simp)).trans' W1 fun y hy => ?_).trans' W3 fun y hy => ?_).trans' F6 fun y hy => .inr (by have := new1 y hy; omega)).trans' FZ fun y hy => .inr (by simp at hy; omega)
    · rcases List.mem_append.1 hy with z | z
      · exact .inl z
      · simp at z; exact .inr (by omega)
    · rcases m1 y hy with z | z
      · exact .inl z
      · exact .inr (by omega)
end Dk.Q
