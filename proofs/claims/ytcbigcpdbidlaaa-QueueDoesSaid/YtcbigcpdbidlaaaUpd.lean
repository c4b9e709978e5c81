/- A line that goes on. -/
import Derived.Test.YtcbigcpdbidlaaaUnreg
set_option linter.unusedVariables false
set_option linter.unusedSimpArgs false
set_option linter.unusedSectionVars false
namespace Dk.Q
open Go Dk

theorem own_split (id idm : Nat) (pa pb : List (Nat × List Nat)) (p : Nat) (fp : List Nat) : own id idm (pa ++ (p, fp) :: pb) = (id :: idm :: pa.flatMap fun p => p.1 :: p.2) ++ ((p :: fp) ++ pb.flatMap fun p => p.1 :: p.2) := by
  simp [own]

theorem DeskAt.upd {h h' : Hp} {id idm : Nat} {a b : List (Int × Line)} {pa pb : List (Nat × List Nat)} {k : Int} {l l' : Line} {p : Nat} {fp fp' : List Nat} {cf : Conf} (H : DeskAt h id idm (pa ++ (p, fp) :: pb) ⟨cf, a ++ (k, l) :: b⟩) (hla : pa.length = a.length)
    (f : Fwd (p :: fp) h h') (hL : LineAt h' p l' fp') (hg : Grown fp h fp') : DeskAt h' id idm (pa ++ (p, fp') :: pb) ⟨cf, a ++ (k, l') :: b⟩ := by
  have hd := H.dis
  rw [own_split] at hd
  obtain ⟨d1, d2, d3⟩ := List.nodup_append.1 hd
  obtain ⟨d4, d5, d6⟩ := List.nodup_append.1 d2
  have hlt := H.lt
  rw [own_split] at hlt
  have hlen : pb.length = b.length := by have := H.len; simp at this; omega
  have old : ∀ y, y ∈ (id :: idm :: pa.flatMap fun p => p.1 :: p.2) ∨ y ∈ (pb.flatMap fun p => p.1 :: p.2) → y ∉ p :: fp := by
    rintro y (hy | hy) q
    · exact d3 y hy y (List.mem_append_left _ q) rfl
    · exact d6 y q y hy rfl
  refine ⟨f.arr H.top (old _ (.inl (by simp))), (f.map H.map (old _ (.inl (by simp)))).trans (by simp [ents, List.zipWith_append hla.symm]), by simp [hla, hlen], fun i k1 l1 p1 fp1 h1 h2 => ?_, ?_, by rw [f.lim]; exact H.lim⟩
  · by_cases hi : i < a.length
    · simp only at h1
      rw [List.getElem?_append_left hi] at h1
      rw [List.getElem?_append_left (by omega)] at h2
      have hmem := List.mem_of_getElem? h2
      refine (H.lines i k1 l1 p1 fp1 (by simp only; rw [List.getElem?_append_left hi]; exact h1) (by rw [List.getElem?_append_left (by omega)]; exact h2)).fwd f (old _ (.inl ?_)) fun x hx => old _ (.inl ?_)
      · exact List.mem_cons_of_mem _ (List.mem_cons_of_mem _ (List.mem_flatMap.2 ⟨_, hmem, by simp⟩))
      · exact List.mem_cons_of_mem _ (List.mem_cons_of_mem _ (List.mem_flatMap.2 ⟨_, hmem, by simp [hx]⟩))
    · simp only at h1
      rw [List.getElem?_append_right (by omega)] at h1
      rw [List.getElem?_append_right (by omega)] at h2
      cases hj : i - a.length with
      | zero =>
        rw [hj] at h1
        rw [hla, hj] at h2
        simp at h1 h2
        obtain ⟨rfl, rfl⟩ := h1
        obtain ⟨rfl, rfl⟩ := h2
        exact hL
      | succ j =>
        rw [hj, List.getElem?_cons_succ] at h1
        rw [hla, hj, List.getElem?_cons_succ] at h2
        have hmem := List.mem_of_getElem? h2
        refine (H.lines i k1 l1 p1 fp1 ?_ ?_).fwd f (old _ (.inr ?_)) fun x hx => old _ (.inr ?_)
        · simp only
          rw [List.getElem?_append_right (by omega), hj, List.getElem?_cons_succ]
          exact h1
        · rw [List.getElem?_append_right (by omega), hla, hj, List.getElem?_cons_succ]
          exact h2
        · exact List.mem_flatMap.2 ⟨_, hmem, by simp⟩
        · exact List.mem_flatMap.2 ⟨_, hmem, by simp [hx]⟩
  · obtain ⟨v, _, hO⟩ := hL.row
    have new : ∀ y ∈ p :: fp', y ∈ p :: fp ∨ h.objs.length ≤ y := by
      intro y hy
      rcases List.mem_cons.1 hy with rfl | hy
      · exact .inl (by simp)
      · exact (hg y hy).imp (fun q => List.mem_cons_of_mem _ q) fun q => q
    have hpn : p ∉ fp' := fun q => by
      rcases hg p q with q | q
      · exact (List.nodup_cons.1 d4).1 q
      · have := hlt p (by simp)
        omega
    rw [own_split]
    refine List.nodup_append.2 ⟨d1, List.nodup_append.2 ⟨List.nodup_cons.2 ⟨hpn, hO.nodup⟩, d5, fun x hx y hy e => ?_⟩, fun x hx y hy e => ?_⟩
    · subst e
      rcases new x hx with q | q
      · exact d6 x q x hy rfl
      · have := hlt x (by simp only [List.mem_append]; exact .inr (.inr hy))
        omega
    · subst e
      rcases List.mem_append.1 hy with hy | hy
      · rcases new x hy with q | q
        · exact d3 x hx x (List.mem_append_left _ q) rfl
        · have := hlt x (List.mem_append_left _ hx)
          omega
      · exact d3 x hx x (List.mem_append_right _ hy) rfl

theorem do_poll_some {h : Hp} {id idm : Nat} {a b : List (Int × Line)} {pa pb : List (Nat × List Nat)} {k : Int} {l : Line} {p : Nat} {fp : List Nat} {cf : Conf} (H : DeskAt h id idm (pa ++ (p, fp) :: pb) ⟨cf, a ++ (k, l) :: b⟩) (hla : pa.length = a.length) (hfr : ∀ x ∈ a, x.1 ≠ k) (hl : h.lim ≤ h.objs.length)
    {s : Int} {c : Cmd} {o : EV} (hk : c.kind = 4) (hn : 1 ≤ c.n) (hid : c.id = k) (hlost : l.row = [] → l.lost = false) (hbr : l.row.length < 1000000) (hbf : (allRefs l.row).length < 1000000) :
    WA (do0 (doArgs id s c o) h) fun v h' => ∃ m r fm fr fp', v = .tup [.agg [eI 0, eI 0, m], r] ∧ Own h' 1 false m (setCells (l.row.take c.n.toNat)) fm ∧ Own h' 2 true r (refCells (allRefs (l.row.take c.n.toNat))) fr ∧ Grown [] h fm ∧ Grown [] h fr ∧
      Fwd [p] h h' ∧ Grown [] h fp' ∧ DeskAt h' id idm (pa ++ (p, fp') :: pb) ⟨cf, a ++ (k, ⟨l.row.drop c.n.toNat, l.lost⟩) :: b⟩ := by
  refine do_poll hl hk fun h1 f1 hl1 hl2 => ?_
  have lp : p < h.objs.length := H.lt p (by simp [own])
  obtain ⟨v, h2, e, m, r, fm, fr, fp', rfl, om, or, gm, gr, f2, gp, hL⟩ := poll_some (H.fwd f1 (by simp)) hla hfr hl1 hn hid hlost hbr hbf
  have big : ∀ {fq : List Nat}, Grown [] h1 fq → ∀ y ∈ fq, h1.objs.length ≤ y := fun g y hy => (g y hy).resolve_left (by simp)
  refine ⟨_, h2, e, f2.mono (by simpa using lp), _, r, rfl, rfl, by simp [ones, om.one.2], fun h3 f3 => ?_⟩
  have nb : ∀ {fq : List Nat}, Grown [] h1 fq → ∀ y ∈ fq, y ∉ [h.objs.length + 1] := fun g y hy q => by
    have := big g y hy
    simp at q
    omega
  have F : Fwd [p] h h3 := ((f1.mono (by simp)).trans f2).trans' f3 fun y hy => .inr (by simp at hy; omega)
  have gg : ∀ {fq : List Nat}, Grown [] h1 fq → Grown [] h fq := fun g y hy => .inr (by have := big g y hy; omega)
  refine ⟨m, r, fm, fr, fp', rfl, om.fwd f3 (nb gm), or.fwd f3 (nb gr), gg gm, gg gr, F, gg gp, ?_⟩
  refine H.upd hla (F.mono (by simp)) (hL.fwd f3 (by simp; omega) (nb gp)) fun y hy => (gg gp y hy).imp (fun q => by cases q) fun q => q

end Dk.Q
