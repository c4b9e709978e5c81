/- Of no shard nothing comes; there are none beyond those that there may be. -/
import Derived.Test.YtcfbgnhiojbobaaGreatP
import Derived.Test.YtcfbgnhiojbobaaGreatEk5
set_option linter.unusedVariables false
set_option linter.unusedSimpArgs false
set_option linter.unusedSectionVars false
namespace Dk.S
open Go Dk

theorem small : smallNos progList = true := by kernel_rfl
theorem noYield : progOf progList yieldNo = none := by kernel_rfl
theorem awake_five (o1 o2 o3 o4 o5 : Obj) : runC (treeOf progList) 1000 60 n_sibyllaw17_awake [] (heapOf [o1, o2, o3, o4, o5] 0) = some (eB true, heapOf [o1, o2, o3, o4, o5] 0) := by kernel_rfl
theorem heapOf_is {l : List Obj} {lim : Nat} (hl : l.length < 1000000) {h : Hp} (R : HRel (heapOf l lim) h) : h = ⟨l, lim⟩ := by
  have R2 := heapOf_ok (l := l) (lim := lim) hl
  obtain ⟨os, m⟩ := h
  have h1 : os = l := List.ext_getElem? fun i => (R.tr.1 i).symm.trans (R2.tr.1 i)
  have h2 : m = lim := R.lim.symm
  rw [h1, h2]
theorem awake_in (o1 o2 o3 o4 o5 : Obj) : C0 n_sibyllaw17_awake [] ⟨[o1, o2, o3, o4, o5], 0⟩ = some (eB true, ⟨[o1, o2, o3, o4, o5], 0⟩) := by
  obtain ⟨h', e, R⟩ := runC_ok (ext := noExt) small noYield noExt_mono (awake_five o1 o2 o3 o4 o5) (heapOf_ok (by simp))
  rw [heapOf_is (by simp) R] at e
  exact e

theorem within_ok (x m : Int) (h : Hp) : C0 n_shard_within [eI x, eI m] h = some (eB (decide (1 ≤ x ∧ x ≤ m)), h) := by
  refine call_loc noExt_mono (f := n_shard_within) rfl rfl rfl fun h0 e0 el => ?_
  by_cases h1 : 1 ≤ x
  · by_cases h2 : x ≤ m <;> simp [Ends, h1, h2]
  · simp [Ends, h1]
theorem runs_nil (h : Hp) : C0 n_shard_Shard_Runs [.nilp] h = some (eI 0, h) := by
  refine call_loc noExt_mono (f := n_shard_Shard_Runs) rfl rfl rfl fun h0 e0 el => ?_
  simp [Ends]
theorem misses_nil (h : Hp) : C0 n_shard_Shard_Misses [.nilp] h = some (eI 0, h) := by
  refine call_loc noExt_mono (f := n_shard_Shard_Misses) rfl rfl rfl fun h0 e0 el => ?_
  simp [Ends]
theorem roll_nil (h : Hp) : C0 n_shard_Shard_Roll [.nilp] h = some (.nilp, h) := by
  refine call_loc noExt_mono (f := n_shard_Shard_Roll) rfl rfl rfl fun h0 e0 el => ?_
  simp [Ends]


theorem lk {l n : Nat} (h : l ≤ n) : (∀ k, (l ≤ n + k) = True) ∧ (l ≤ n) = True := ⟨fun k => eq_true (by omega), eq_true h⟩
def cells (s a b q r e f : Int) : List EV := [eI s, eI a, eI b, eI q, eI r, eI e, eI f]
theorem bn1 : binOp .neq .ptr .nilp .nilp = some (eB false) := rfl
theorem bn2 (a b c d : Nat) : binOp .neq .ptr (.ptr a b c d) .nilp = some (eB true) := rfl
theorem new_any {s a b q r e f n : Int} (h : Hp) (hl : h.lim ≤ h.objs.length) {d : Bool} (hd : d = decide ((1 ≤ s ∧ s ≤ 15) ∧ (1 ≤ r ∧ r ≤ 4096) ∧ (1 ≤ q ∧ q ≤ 4096) ∧ 0 ≤ n ∧ n < s)) :
    WA (C0 n_shard_New [.agg (cells s a b q r e f), eI n] h) fun v h' => binOp .neq .ptr v .nilp = some (eB d) := by
  refine call_W noExt_mono (f := n_shard_New) rfl rfl ?_
  simp [cells, ones]
  refine PutA_eq (within_ok s 15 _) ?_
  by_cases h1 : 1 ≤ s ∧ s ≤ 15
  · simp [h1]
    refine PutA_eq (within_ok r 4096 _) ?_
    by_cases h2 : 1 ≤ r ∧ r ≤ 4096
    · simp [h2]
      refine PutA_eq (within_ok q 4096 _) ?_
      by_cases h3 : 1 ≤ q ∧ q ≤ 4096
      · by_cases h4 : n < 0
        · have : d = false := by rw [hd]; simp; omega
          simp [h3, h4, Ends, this, bn1, bn2]
        · by_cases h5 : s ≤ n
          · have : d = false := by rw [hd]; simp; omega
            simp [h3, h4, h5, Ends, this, bn1, bn2]
          · have : d = true := by rw [hd]; simp; omega
            simp [h3, h4, h5, Ends, this, bn1, bn2]
      · have : d = false := by rw [hd]; simp; omega
        simp [h3, Ends, this, bn1, bn2]
    · have : d = false := by rw [hd]; simp; omega
      simp [h2, Ends, this, bn1, bn2]
  · have : d = false := by rw [hd]; simp; omega
    simp [h1, Ends, this, bn1, bn2]

theorem two_objs (h : Hp) (x y : Obj) (a : Arr) : (((h.new x).new y).setArr (h.objs.length + 1) a).objs = h.objs ++ [x, .cells a] := by
  simp only [Hp.new, Hp.setArr, List.append_assoc]
  rw [List.set_append_right _ _ (by omega)]
  have e : h.objs.length + 1 - h.objs.length = 1 := by omega
  rw [e]
  rfl
theorem apply_nil {fn : EV} (h : Hp) (hl : h.lim ≤ h.objs.length) {P : EV → Hp → Prop}
    (hP : ∀ h', h'.lim = h.lim → (∃ o1 o2, h'.objs = h.objs ++ [o1, o2]) → P (.agg [.full [], .full [], .full [], .full []]) h') :
    WA (C0 n_shard_Shard_Apply [.nilp, eI 1, .agg [eI 1, eI 0, eI 0, eI 0, eI 0, eI 0, eI 0, eI 0, eI 0, eI 0, eI 0, .full [], eI 0, eB false], fn] h) P := by
  refine call_W noExt_mono (f := n_shard_Shard_Apply) rfl rfl ?_
  simp [ones, Ends, lk hl]
  exact hP _ (by simp) ⟨_, _, two_objs h _ _ _⟩

theorem shardNil_ok (s a b q r e f n : Int) : C0 n_sibyllaw17_ShardNil [.agg (cells s a b q r e f), eI n] ⟨[], 0⟩ = some (eB true, ⟨[], 0⟩) := by
  refine call_loc noExt_mono (f := n_sibyllaw17_ShardNil) rfl rfl rfl fun h0 e0 el => ?_
  obtain ⟨os, lim⟩ := h0
  simp at e0 el
  subst e0 el
  simp [cells, ones]
  refine PutA_of (apply_nil _ (by simp) (P := fun v h' => v = .agg [.full [], .full [], .full [], .full []] ∧ h'.lim = 0 ∧ ∃ o1 o2 o3, h'.objs = [.cells ⟨0, 7, true, 0, [[eI s, eI a, eI b, eI q, eI r, eI e, eI f]]⟩, o1, o2, o3]) fun h' z1 ⟨o1, o2, z2⟩ => ⟨rfl, by rw [z1]; rfl, _, o1, o2, by rw [z2]; rfl⟩) ?_
  rintro v X ⟨rfl, z1, o1, o2, o3, z2⟩
  have n1 : X.objs.length = 4 := by rw [z2]; rfl
  have a1 : X.arr 0 0 = some ⟨0, 7, true, 0, [[eI s, eI a, eI b, eI q, eI r, eI e, eI f]]⟩ := by simp [Hp.arr, z2]
  have aw : ∀ x y, C0 n_sibyllaw17_awake [] ((X.new x).setArr 4 y) = some (eB true, (X.new x).setArr 4 y) := fun x y => by
    obtain ⟨os, lim⟩ := X
    simp only at z1 z2
    subst z1 z2
    exact awake_in _ _ _ _ _
  have l1 := arr_lt a1
  clear z2
  have w0 : IntKind.i64.wrap 0 = 0 := wrap64 (by omega) (by omega)
  obtain ⟨d, hd⟩ : ∃ d : Bool, d = decide ((1 ≤ s ∧ s ≤ 15) ∧ (1 ≤ r ∧ r ≤ 4096) ∧ (1 ≤ q ∧ q ≤ 4096) ∧ 0 ≤ n ∧ n < s) := ⟨_, rfl⟩
  have hn := fun h hl => new_any (a := a) (b := b) (e := e) (f := f) h hl hd
  simp only [cells] at hn
  have hd : (1 ≤ s ∧ s ≤ 15 ∧ 0 ≤ n ∧ n < s ∧ 1 ≤ r ∧ r ≤ 4096 ∧ 1 ≤ q ∧ q ≤ 4096 ∧ d = true) ∨ (d = false ∧ (¬ 1 ≤ s ∨ (1 ≤ s ∧ ¬ s ≤ 15) ∨ (1 ≤ s ∧ s ≤ 15 ∧ ¬ 0 ≤ n) ∨ (1 ≤ s ∧ s ≤ 15 ∧ 0 ≤ n ∧ ¬ n < s) ∨ (1 ≤ s ∧ s ≤ 15 ∧ 0 ≤ n ∧ n < s ∧ ¬ 1 ≤ r) ∨ (1 ≤ s ∧ s ≤ 15 ∧ 0 ≤ n ∧ n < s ∧ 1 ≤ r ∧ ¬ r ≤ 4096) ∨
      (1 ≤ s ∧ s ≤ 15 ∧ 0 ≤ n ∧ n < s ∧ 1 ≤ r ∧ r ≤ 4096 ∧ ¬ 1 ≤ q) ∨ (1 ≤ s ∧ s ≤ 15 ∧ 0 ≤ n ∧ n < s ∧ 1 ≤ r ∧ r ≤ 4096 ∧ 1 ≤ q ∧ ¬ q ≤ 4096))) := by
    cases d with
    | true => have := of_decide_eq_true hd.symm; refine .inl ⟨?_, ?_, ?_, ?_, ?_, ?_, ?_, ?_, rfl⟩ <;> omega
    | false =>
      have := of_decide_eq_false hd.symm
      refine .inr ⟨rfl, ?_⟩
      omega
  rcases hd with ⟨b1, b2, b3, b4, b5, b6, b7, b8, rfl⟩ | ⟨rfl, b1 | ⟨b1, b2⟩ | ⟨b1, b2, b3⟩ | ⟨b1, b2, b3, b4⟩ | ⟨b1, b2, b3, b4, b5⟩ | ⟨b1, b2, b3, b4, b5, b6⟩ | ⟨b1, b2, b3, b4, b5, b6, b7⟩ | ⟨b1, b2, b3, b4, b5, b6, b7, b8⟩⟩
  · simp [n1, a1, z1, nl l1, ones, b1, b2, b3, b4, b5, b6, b7, b8]
    refine PutA_eq (aw _ _) ?_
    simp [n1, a1, z1, nl l1, lenOf, w0]
    refine PutA_eq (runs_nil _) ?_
    simp
    refine PutA_eq (misses_nil _) ?_
    simp [w0]
    refine PutA_eq (roll_nil _) ?_
    simp [n1, a1, z1, nl l1]
    refine PutA_of (hn _ (by simp [z1])) ?_
    intro v Y eY
    simp [eY, Ends]
  · simp [n1, a1, z1, nl l1, ones, b1]
    refine PutA_eq (aw _ _) ?_
    simp [n1, a1, z1, nl l1, lenOf, w0]
    refine PutA_eq (runs_nil _) ?_
    simp
    refine PutA_eq (misses_nil _) ?_
    simp [w0]
    refine PutA_eq (roll_nil _) ?_
    simp [n1, a1, z1, nl l1]
    refine PutA_of (hn _ (by simp [z1])) ?_
    intro v Y eY
    simp [eY, Ends]
  · simp [n1, a1, z1, nl l1, ones, b1, b2]
    refine PutA_eq (aw _ _) ?_
    simp [n1, a1, z1, nl l1, lenOf, w0]
    refine PutA_eq (runs_nil _) ?_
    simp
    refine PutA_eq (misses_nil _) ?_
    simp [w0]
    refine PutA_eq (roll_nil _) ?_
    simp [n1, a1, z1, nl l1]
    refine PutA_of (hn _ (by simp [z1])) ?_
    intro v Y eY
    simp [eY, Ends]
  · simp [n1, a1, z1, nl l1, ones, b1, b2, b3]
    refine PutA_eq (aw _ _) ?_
    simp [n1, a1, z1, nl l1, lenOf, w0]
    refine PutA_eq (runs_nil _) ?_
    simp
    refine PutA_eq (misses_nil _) ?_
    simp [w0]
    refine PutA_eq (roll_nil _) ?_
    simp [n1, a1, z1, nl l1]
    refine PutA_of (hn _ (by simp [z1])) ?_
    intro v Y eY
    simp [eY, Ends]
  · simp [n1, a1, z1, nl l1, ones, b1, b2, b3, b4]
    refine PutA_eq (aw _ _) ?_
    simp [n1, a1, z1, nl l1, lenOf, w0]
    refine PutA_eq (runs_nil _) ?_
    simp
    refine PutA_eq (misses_nil _) ?_
    simp [w0]
    refine PutA_eq (roll_nil _) ?_
    simp [n1, a1, z1, nl l1]
    refine PutA_of (hn _ (by simp [z1])) ?_
    intro v Y eY
    simp [eY, Ends]
  · simp [n1, a1, z1, nl l1, ones, b1, b2, b3, b4, b5]
    refine PutA_eq (aw _ _) ?_
    simp [n1, a1, z1, nl l1, lenOf, w0]
    refine PutA_eq (runs_nil _) ?_
    simp
    refine PutA_eq (misses_nil _) ?_
    simp [w0]
    refine PutA_eq (roll_nil _) ?_
    simp [n1, a1, z1, nl l1]
    refine PutA_of (hn _ (by simp [z1])) ?_
    intro v Y eY
    simp [eY, Ends]
  · simp [n1, a1, z1, nl l1, ones, b1, b2, b3, b4, b5, b6]
    refine PutA_eq (aw _ _) ?_
    simp [n1, a1, z1, nl l1, lenOf, w0]
    refine PutA_eq (runs_nil _) ?_
    simp
    refine PutA_eq (misses_nil _) ?_
    simp [w0]
    refine PutA_eq (roll_nil _) ?_
    simp [n1, a1, z1, nl l1]
    refine PutA_of (hn _ (by simp [z1])) ?_
    intro v Y eY
    simp [eY, Ends]
  · simp [n1, a1, z1, nl l1, ones, b1, b2, b3, b4, b5, b6, b7]
    refine PutA_eq (aw _ _) ?_
    simp [n1, a1, z1, nl l1, lenOf, w0]
    refine PutA_eq (runs_nil _) ?_
    simp
    refine PutA_eq (misses_nil _) ?_
    simp [w0]
    refine PutA_eq (roll_nil _) ?_
    simp [n1, a1, z1, nl l1]
    refine PutA_of (hn _ (by simp [z1])) ?_
    intro v Y eY
    simp [eY, Ends]
  · simp [n1, a1, z1, nl l1, ones, b1, b2, b3, b4, b5, b6, b7, b8]
    refine PutA_eq (aw _ _) ?_
    simp [n1, a1, z1, nl l1, lenOf, w0]
    refine PutA_eq (runs_nil _) ?_
    simp
    refine PutA_eq (misses_nil _) ?_
    simp [w0]
    refine PutA_eq (roll_nil _) ?_
    simp [n1, a1, z1, nl l1]
    refine PutA_of (hn _ (by simp [z1])) ?_
    intro v Y eY
    simp [eY, Ends]
theorem shardNil_D : ∀ xss, Typed [([.int .i64, .int .i64, .int .i64, .int .i64, .int .i64, .int .i64, .int .i64], true), ([.int .i64], false)] xss → C0 n_sibyllaw17_ShardNil (argsEV [([.int .i64, .int .i64, .int .i64, .int .i64, .int .i64, .int .i64, .int .i64], true), ([.int .i64], false)] xss) ⟨[], 0⟩ = some (eB true, ⟨[], 0⟩) := by
  intro xss h
  simp only [Typed, PTs, PT] at h
  obtain ⟨_, _, rfl, ⟨_, _, rfl, ⟨s, rfl, -⟩, ⟨_, _, rfl, ⟨a, rfl, -⟩, ⟨_, _, rfl, ⟨b, rfl, -⟩, ⟨_, _, rfl, ⟨q, rfl, -⟩, ⟨_, _, rfl, ⟨r, rfl, -⟩, ⟨_, _, rfl, ⟨e, rfl, -⟩, ⟨_, _, rfl, ⟨f, rfl, -⟩, rfl⟩⟩⟩⟩⟩⟩⟩, ⟨_, _, rfl, ⟨_, _, rfl, ⟨n, rfl, -⟩, rfl⟩, rfl⟩⟩ := h
  exact shardNil_ok s a b q r e f n
end Dk.S
