/- query.takes, query.Sound. -/
import Derived.Test.YtnhghaianccncaaDoorQry
set_option linter.unusedVariables false
set_option linter.unusedSimpArgs false
set_option linter.unusedSectionVars false
namespace Dk.L
open Go Dk
variable [Mx]
theorem takes_ok {nm : ByteArray → Bool} {c : Code} (hn : NameIs c.v (nm c.v)) {h : Hp} (hl : h.lim ≤ h.objs.length) :
 C0 n_query_takes [.agg c.cells] h = some (.tup [eI (takesB nm c).1, eB (takesB nm c).2], h) := by
 refine call_loc noExt_mono (f := n_query_takes) rfl rfl rfl fun h0 e0 el => ?_
 simp [Code.cells]
 have x0 : ∀ o, (h0.new o).lim ≤ (h0.new o).objs.length := fun o => by simp; omega
 unfold takesB
 by_cases h1 : c.op = 1
 · simp [h1, Ends]
 by_cases h2 : c.op = 2
 · simp [h2, Ends]
 by_cases h3 : c.op = 3
 · simp [h3, Ends]
 by_cases h4 : c.op = 4
 · simp [h4, Ends]
 by_cases h5 : c.op = 5
 · simp [h5, Ends]
 by_cases h9 : c.op = 9
 · simp [h9, Ends]
 by_cases h6 : c.op = 6
 · simp [h6, Ends]
 by_cases h8 : c.op = 8
 · simp [h8]
   refine PutA_eq (hn _ (x0 _)) ?_
   simp [Ends]
 by_cases h7 : c.op = 7
 · simp [h7]
   refine PutA_eq (hn _ (x0 _)) ?_
   cases hb : nm c.v
   · simp [Ends]
   · by_cases hf : 0 ≤ c.field
     · simp [hf, Ends]
     · simp [hf, Ends]
 simp [h1, h2, h3, h4, h5, h6, h7, h8, h9, Ends]
theorem takes_range (nm : ByteArray → Bool) (c : Code) : 0 ≤ (takesB nm c).1 ∧ (takesB nm c).1 ≤ 2 := by
 unfold takesB
 split
 · simp
 split
 · simp
 split
 · simp
 split
 · simp
 split <;> simp
structure SoI (nm : ByteArray → Bool) (X : Hp) (v : EV) (cs : List Code) (z : Nat) (f : Fr) (h' : Hp) : Prop where
 ex : ∃ (i : Nat) (n : Int), i ≤ cs.length ∧ z = cs.length - i ∧ Fwd [] X h' ∧ 0 ≤ n ∧ n ≤ i ∧ f.get 3 = eI n ∧ f.get 8 = v ∧ f.get 9 = eI cs.length ∧ f.get 10 = eI i ∧ soundB nm 0 cs = soundB nm n (cs.drop i)
theorem sound_ok {nm : ByteArray → Bool} {h : Hp} {v : EV} {cs : List Code} (V : View h 5 v (cs.map Code.cells)) (hlen : cs.length < 1000000) (hl : h.lim ≤ h.objs.length) (hn : ∀ c ∈ cs, NameIs c.v (nm c.v)) :
 C0 n_query_Sound [v] h = some (eB (soundB nm 0 cs), h) := by
 refine call_loc noExt_mono (f := n_query_Sound) rfl rfl rfl fun h0 e0 el => ?_
 have hl : h0.lim ≤ h0.objs.length := by omega
 have P0 : Pfx h h0 := .of e0
 simp [V.len]
 refine Run_loop (SoI nm h0 v cs) (n := cs.length) ⟨0, 0, by omega, rfl, Fwd.refl _ _, by omega, by omega, by simp, by simp, by simp, by simp, by simp⟩ ?_
 rintro z f1 h1 ⟨i, n, hi, hz, F1, hn0, hni, g3, g8, g9, g10, hs⟩
 have lm : h1.lim ≤ h1.objs.length := by have := F1.lim; have := F1.len; omega
 by_cases hin : i < cs.length
 · obtain ⟨c, hc⟩ : ∃ c, cs[i]? = some c := ⟨_, List.getElem?_eq_getElem hin⟩
   obtain ⟨q, q1, q2⟩ := V.get (i := i) (el := c.cells) (by rw [List.getElem?_map, hc]; rfl) rfl
   have q2 := q2 h1 (P0.trans (pfx F1))
   have hd : cs.drop i = c :: cs.drop (i + 1) := by
    rw [List.drop_eq_getElem_cons hin]
    rw [List.getElem?_eq_getElem hin] at hc
    cases hc
    rfl
   rw [hd, soundB] at hs
   have hr := takes_range nm c
   have T := fun (H : Hp) (hH : H.lim ≤ H.objs.length) => takes_ok (nm := nm) (hn c (List.mem_of_getElem? hc)) hH
   simp [g3, g8, g9, g10, hin, q1, q2, Code.cells, ones, lm]
   refine PutA_eq (T _ (by simp; omega)) ?_
   generalize takesB nm c = t at *
   obtain ⟨k, ok⟩ := t
   simp only at hr hs
   cases ok with
   | false => simp [Ends, hs]
   | true =>
    by_cases hk : n < k
    · have : ¬ k ≤ n := by omega
      simp [g3, hk, hs, this, Ends]
    · have hk' : k ≤ n := by omega
      have w1 : IntKind.i64.wrap (1 - k) = 1 - k := wrap64 (by omega) (by omega)
      have w2 : IntKind.i64.wrap (n + (1 - k)) = n + (1 - k) := wrap64 (by omega) (by omega)
      have w3 : IntKind.i64.wrap ((i : Int) + 1) = (i : Int) + 1 := wrap64 (by omega) (by omega)
      simp [g3, g10, hk, w1, w2, w3]
      refine ⟨cs.length - (i + 1), by omega, i + 1, n + (1 - k), by omega, rfl, ?_, by omega, by omega, by simp, by simp [g8], by simp [g9], by simp, ?_⟩
      · exact (F1.new _).set _ (.inr (by have := F1.len; omega))
      · rw [hs]; simp [hk']; congr 1; omega
 · have : cs.drop i = [] := List.drop_eq_nil_of_le (by omega)
   rw [this, soundB] at hs
   simp [g3, g9, g10, hin, Ends, hs]
end Dk.L
