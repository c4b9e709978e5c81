/- Keywords, in plain words; what is none is not found. -/
import Derived.Test.YtalodgghnpnnkaaDoorInd
set_option linter.unusedVariables false
set_option linter.unusedSimpArgs false
set_option linter.unusedSectionVars false
namespace Dk.M
open Go Dk
variable [Mx]
def kwT : List UInt8 := [32, 115, 101, 113, 32, 119, 104, 101, 114, 101, 32, 97, 110, 100, 32, 119, 105, 116, 104, 105, 110, 32, 98, 121, 32, 107, 101, 121, 32]
def kwords : List (List UInt8) := [[115, 101, 113], [119, 104, 101, 114, 101], [97, 110, 100], [119, 105, 116, 104, 105, 110], [98, 121], [107, 101, 121]]
def kwB (l : List UInt8) : Bool := decide (l ∈ kwords)
def needle (l : List UInt8) : List UInt8 := 32 :: (l ++ [32])
omit [Mx] in
theorem takeW {l r : List UInt8} (hb : ∀ c ∈ l, c ≠ 32) : (l ++ 32 :: r).takeWhile (fun c => c != 32) = l := by
 induction l with
 | nil => simp
 | cons c l ih =>
  have h1 : c ≠ 32 := hb c (by simp)
  simp [h1]
  simpa using ih fun d hd => hb d (by simp [hd])
omit [Mx] in
theorem kw_where : ∀ i, i < 28 → kwT[i]? = some 32 → (kwT.drop (i + 1)).takeWhile (fun c => c != 32) ∈ kwords := by decide
omit [Mx] in
theorem kw_nowhere {l : List UInt8} (hb : ∀ c ∈ l, c ≠ 32) (hk : kwB l = false) : Nowhere kwT (needle l) := by
 intro i h
 have hk : l ∉ kwords := by simpa [kwB] using hk
 have hl : (needle l).length = l.length + 2 := by simp [needle]
 obtain ⟨r, hr⟩ : ∃ r, kwT.drop i = needle l ++ r := ⟨(kwT.drop i).drop (needle l).length, by rw [← h]; exact (List.take_append_drop _ _).symm.trans (by rw [h])⟩
 have hlen := congrArg List.length hr
 simp only [List.length_drop, List.length_append, hl] at hlen
 have h29 : kwT.length = 29 := rfl
 have hi : i < 28 := by omega
 have h0 : kwT[i]? = some 32 := by
  have := congrArg List.head? hr
  rw [List.head?_drop] at this
  exact this
 have h1 : kwT.drop (i + 1) = l ++ 32 :: r := by
  have := congrArg (List.drop 1) hr
  rw [List.drop_drop] at this
  simpa [needle] using this
 have h2 := kw_where i hi h0
 rw [h1, takeW hb] at h2
 exact hk h2
theorem contains_none {s : List UInt8} (h2 : 2 ≤ s.length) (hs : s.length < 2 ^ 62) (no : Nowhere kwT s) (h : Hp) (hl : h.lim ≤ h.objs.length) : C0 n_strings_Contains [.p (.str (mkS kwT)), .p (.str (mkS s))] h = some (eB false, h) := by
 have h1 : ∀ h : Hp, h.lim ≤ h.objs.length → C0 n_strings_Index [.p (.str (mkS kwT)), .p (.str (mkS s))] h = some (eI (-1), h) := fun h hl => by
  refine call_loc noExt_mono (f := n_strings_Index) rfl rfl rfl fun h0 e0 el => ?_
  simp
  refine PutA_eq (index_none h2 (by decide) hs no h0 (by omega)) ?_
  simp [Ends]
 refine call_loc noExt_mono (f := n_strings_Contains) rfl rfl rfl fun h0 e0 el => ?_
 simp
 refine PutA_eq (h1 h0 (by omega)) ?_
 simp [Ends]
omit [Mx] in
theorem bin_saddL (ek : EK) {a b : List UInt8} (h : a.length + b.length < 4294967296) : binOp .add ek (.p (.str (mkS a))) (.p (.str (mkS b))) = some (.p (.str (mkS (a ++ b)))) := by
 have e : mkS a ++ mkS b = mkS (a ++ b) := by
  rw [mkS_of (mkS a ++ mkS b)]
  congr 1
 simp [binOp, strBin, h, e]
theorem keyword_of {b : Bool} {l : List UInt8} (hs : l.length < 2 ^ 31) (hc : ∀ h : Hp, h.lim ≤ h.objs.length → C0 n_strings_Contains [.p (.str (mkS kwT)), .p (.str (mkS (needle l)))] h = some (eB b, h)) (h : Hp) (hl : h.lim ≤ h.objs.length) : C0 n_query_keyword [.p (.str (mkS l))] h = some (eB b, h) := by
 refine call_loc noExt_mono (f := n_query_keyword) rfl rfl rfl fun h0 e0 el => ?_
 have b1 := bin_saddL .none (a := [32]) (b := l) (by simp; omega)
 have b2 := bin_saddL .none (a := 32 :: l) (b := [32]) (by simp; omega)
 simp only [List.cons_append, List.nil_append] at b1 b2
 simp [show bs [32] = mkS [32] from rfl, b1, b2]
 refine PutA_eq (hc h0 (by omega)) ?_
 simp [Ends]
theorem keyword_none {l : List UInt8} (hs : l.length < 2 ^ 31) (hb : ∀ c ∈ l, c ≠ 32) (hk : kwB l = false) (h : Hp) (hl : h.lim ≤ h.objs.length) : C0 n_query_keyword [.p (.str (mkS l))] h = some (eB false, h) :=
 keyword_of hs (fun h hl => contains_none (by simp [needle]) (by simp [needle]; omega) (kw_nowhere hb hk) h hl) h hl
end Dk.M
