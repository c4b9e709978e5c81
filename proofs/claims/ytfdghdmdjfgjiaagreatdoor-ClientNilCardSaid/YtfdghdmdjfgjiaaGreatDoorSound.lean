/- Sound codes; digits; parts that are held together. -/
import Derived.Test.YtfdghdmdjfgjiaaGreatDoorNames
set_option linter.unusedVariables false
set_option linter.unusedSimpArgs false
set_option linter.unusedSectionVars false
namespace Dk.C
open Go Dk

/-- How many values there are behind codes; none, if one takes more than there are. -/
def hts : List Code → Int → Option Int
  | [], n => some n
  | c :: r, n => if tk c < 0 ∨ n < tk c then none else hts r (n - tk c + 1)
theorem hts_append : ∀ (a b : List Code) (n : Int), hts (a ++ b) n = (hts a n).bind (hts b)
  | [], _, _ => rfl
  | c :: r, b, n => by
    simp only [List.cons_append, hts]
    split
    · rfl
    · exact hts_append r b _
theorem tk_le (c : Code) : tk c ≤ 2 := by
  unfold tk
  repeat' split
  all_goals omega
theorem hts_le : ∀ (l : List Code) (n m : Int), 0 ≤ n → hts l n = some m → 0 ≤ m ∧ m ≤ n + l.length
  | [], n, m, h0, h => by simp [hts] at h; subst h; simp; omega
  | c :: r, n, m, h0, h => by
    simp only [hts] at h
    split at h
    · cases h
    · rename_i hc
      have := hts_le r _ m (by omega) h
      simp only [List.length_cons]
      omega
theorem codes_sized (l : List Code) : sized 5 (l.map Code.pd) = true := List.all_eq_true.2 fun x hx => by
  obtain ⟨r, _, rfl⟩ := List.mem_map.1 hx
  rfl
theorem sound_ok {l : List Code} (ok : ∀ c ∈ l, CodeOK c) (hb : l.length < 1000) {h : Hp} (hh : h.lim ≤ h.objs.length) : C0 n_rSound [.p (.list (l.map Code.pd))] h = some (eB (decide (hts l 0 = some 1)), h) := by
  refine call_loc noExt_mono (f := n_rSound) rfl rfl rfl fun h0 e0 el => ?_
  have hl : h0.lim ≤ h0.objs.length := by omega
  simp
  refine Run_loop (fun q f h' => ∃ (i : Nat) (n : Int), h' = h0 ∧ f.get 0 = .p (.list (l.map Code.pd)) ∧ f.get 3 = eI n ∧ f.get 4 = eI (i : Nat) ∧ i ≤ l.length ∧ q = l.length - i ∧ 0 ≤ n ∧ n ≤ i ∧ hts l 0 = hts (l.drop i) n) (n := l.length) ⟨0, 0, rfl, by simp, by simp, by simp, by omega, rfl, by omega, by omega, by simp⟩ ?_
  rintro q f2 h2 ⟨i, n, rfl, g0, g3, g4, ile, hq, n0, n1, hh2⟩
  by_cases hi : i < l.length
  · obtain ⟨c, hc⟩ : ∃ c, l[i]? = some c := ⟨_, List.getElem?_eq_getElem hi⟩
    have hc2 := (List.getElem?_eq_some_iff.1 hc).2
    have cok := ok c (List.mem_of_getElem? hc)
    have w1 : IntKind.i64.wrap ((i : Int) + 1) = (i : Int) + 1 := wrap64 (by omega) (by omega)
    have hd : l.drop i = c :: l.drop (i + 1) := by rw [List.drop_eq_getElem_cons hi, hc2]
    have tl := tk_le c
    have tg : -1 ≤ tk c := by
      unfold tk
      repeat' split
      all_goals omega
    have w2 : IntKind.i64.wrap (n - tk c) = n - tk c := wrap64 (by omega) (by omega)
    have w3 : IntKind.i64.wrap (n - tk c + 1) = n - tk c + 1 := wrap64 (by omega) (by omega)
    rw [hd] at hh2
    simp only [hts] at hh2
    have tko := takes_ok cok hl
    simp only [Code.cells] at tko
    simp [g0, g3, g4, hi, hc2, Code.pd]
    refine PutA_eq tko ?_
    by_cases t0 : tk c < 0
    · rw [if_pos (.inl t0)] at hh2
      simp [t0, Ends, hh2]
    · by_cases t1 : n < tk c
      · rw [if_pos (.inr t1)] at hh2
        simp [t0, t1, g3, Ends, hh2]
      · rw [if_neg (by omega)] at hh2
        simp [t0, t1, g0, g3, g4, w1, w2, w3]
        exact ⟨l.length - (i + 1), by omega, i + 1, by simp, by omega, rfl, by omega, by omega, hh2⟩
  · obtain rfl : i = l.length := by omega
    simp [hts] at hh2
    simp [g0, g3, g4, Ends, hh2]

theorem bin_sadd (ek : EK) {a b : ByteArray} (h : a.size + b.size < 4294967296) : binOp .add ek (.p (.str a)) (.p (.str b)) = some (.p (.str (a ++ b))) := by
  simp [binOp, strBin, h]
theorem size_add (a b : ByteArray) : (a ++ b).size = a.size + b.size := ByteArray.size_append
theorem held_ok {s : ByteArray} {m k : Int} (hs : s.size < 1000000) {h : Hp} (hh : h.lim ≤ h.objs.length) : ∃ t : ByteArray, t.size ≤ s.size + 2 ∧ C0 n_held [.agg [.p (.str s), eI m], eI k] h = some (.p (.str t), h) := by
  refine ⟨if m < k then bs [40] ++ s ++ bs [41] else s, ?_, ?_⟩
  · split
    · simp [size_add, bs_size]; omega
    · omega
  refine call_loc noExt_mono (f := n_held) rfl rfl rfl fun h0 e0 el => ?_
  have hl : h0.lim ≤ h0.objs.length := by omega
  have b1 : (bs [40]).size + s.size < 4294967296 := by simp [bs_size]; omega
  have b2 : (bs [40] ++ s).size + (bs [41]).size < 4294967296 := by simp [size_add, bs_size]; omega
  by_cases hm : m < k
  · simp [ones, lk hl, hm, bin_sadd _ b1, bin_sadd _ b2, Ends]
  · simp [ones, lk hl, hm, Ends]
theorem digits_ok {n : Int} (hn : 0 ≤ n ∧ n ≤ 9) {h : Hp} (hh : h.lim ≤ h.objs.length) : ∃ t : ByteArray, t.size ≤ 1 ∧ C0 n_digits [eI n] h = some (.p (.str t), h) := by
  refine ⟨(ByteArray.empty.push (UInt8.ofNat (IntKind.u8.wrap (48 + n)).toNat)) ++ bs [], ?_, ?_⟩
  · simp [size_add, bs_size, ByteArray.size_push]
  refine call_loc noExt_mono (f := n_digits) rfl rfl rfl fun h0 e0 el => ?_
  have hl : h0.lim ≤ h0.objs.length := by omega
  simp
  refine Run_loop (fun q f h' => h' = h0 ∧ f.get 0 = eI n ∧ f.get 3 = .p (.str (bs [])) ∧ q = 0) (n := 0) ⟨rfl, by simp, by simp, rfl⟩ ?_
  rintro q f2 h2 ⟨rfl, g0, g3, hq⟩
  have h9 : ¬ (10 ≤ n) := by omega
  have w1 : IntKind.i64.wrap (48 + n) = 48 + n := wrap64 (by omega) (by omega)
  have b1 : (ByteArray.empty.push (UInt8.ofNat (IntKind.u8.wrap (48 + n)).toNat)).size + (bs []).size < 4294967296 := by simp [bs_size, ByteArray.size_push]
  simp [g0, g3, h9, w1, textOf, elsOf, bytes1, bin_sadd _ b1, Ends]
end Dk.C
